/- The contract of the function that lexer.tokens hands back: an iterator over the tokens of a source. | The contract of lexer.Lex, in the form that the printed texts take: what it answers for every source. -/
import Derived.RangeFuncBox
import Derived.RangeFuncLeaves
import Derived.RangeFuncCalls
import Derived.Shelf.Abstract
import Derived.WalkKit
import Derived.OwnWalkIn
import Derived.TacticsIn
import Derived.TacticsInMore
import Derived.RegionIn
import Derived.LoopNIn
import Derived.LoopIn
import Derived.Maps.AppendAt
import Derived.Test.YtmndicibakaceaaDoorExtNx
import Derived.Test.YtmndicibakaceaaDoorExtBl
import Derived.RangeFuncNested
namespace Go.Proofs.YtmndicibakaceaaDoor.Pr
section
open Go.RowKit Go.Proofs.YtmndicibakaceaaDoorW.PrintWords Go.Proofs.YtmndicibakaceaaDoorW.PrintLast Go.Proofs.YtmndicibakaceaaDoorW.PrintMore
attribute [local go_sem] Oper.semAt_some
/-- the tokens from an offset on, each one with its error: the first error is the last one. -/
def toksAt (s : ByteArray) : Nat → Nat → List (S36 × Int)
  | 0, _ => []
  | k + 1, i =>
    if i < s.size then
      if (nextTok s i).2.2 = 0 then ((nextTok s i).1, 0) :: toksAt s k (blanksTo s (nextTok s i).2.1.toNat)
      else [((nextTok s i).1, (nextTok s i).2.2)]
    else [(⟨0, ⟨#[]⟩, s.size⟩, 0)]
def toks (s : ByteArray) : List (S36 × Int) := toksAt s (s.size + 1) (blanksTo s 0)
def tokEnc (x : S36 × Int) : Array Value := #[.agg #[.int .i64 x.1.f0, .string x.1.f1, .int .i64 x.1.f2], .int .i64 x.2]
/-- what the loop's body keeps: the box of the source, and what lay when Lex began. -/
def KpL (B n₀ : Nat) (W W' : World) : Prop := Below n₀ W W' ∧ W'.heap[B]? = W.heap[B]?
theorem KpL.trans {B n₀ : Nat} {X Y Z : World} (h : KpL B n₀ X Y) (k : KpL B n₀ Y Z) : KpL B n₀ X Z := ⟨h.1.trans k.1, k.2.trans h.2⟩
theorem grown_of_below {W W' : World} (h : Below W.heap.size W W') : W.grownBy W' none := ⟨h.os, h.tape, h.output, h.size, fun k hk _ => h.block k hk⟩
theorem grown_drewN (W : World) (n : Nat) : W.grownBy (W.drewN n) none := grown_of_below (pw_below_drewN (Below.refl _ _) n)
theorem toksAt_pos (s : ByteArray) (k i : Nat) : 0 < (toksAt s (k + 1) i).length := by
  unfold toksAt
  split
  · split <;> simp
  · simp
theorem toksAt_ok {s : ByteArray} {k i : Nat} (h : i < s.size) {t : S36} {n : Nat} (ht : nextTok s i = (t, (n : Int), 0)) : toksAt s (k + 1) i = (t, 0) :: toksAt s k (blanksTo s n) := by
  rw [toksAt, if_pos h, ht]; rfl
theorem toksAt_err {s : ByteArray} {k i : Nat} (h : i < s.size) {t : S36} {e r : Int} (ht : nextTok s i = (t, e, r)) (hr : r ≠ 0) : toksAt s (k + 1) i = [(t, r)] := by
  rw [toksAt, if_pos h, ht, if_neg hr]
theorem toksAt_end {s : ByteArray} {k i : Nat} (h : ¬ i < s.size) : toksAt s (k + 1) i = [(⟨0, ⟨#[]⟩, s.size⟩, 0)] := by
  rw [toksAt, if_neg h]
theorem Gd.kept {n₀ : Nat} {w w1 : World} (h : Gd w) (h0 : 0 < n₀) (hb : Below n₀ w w1) : Gd w1 := by
  obtain ⟨m, hm⟩ := h
  exact ⟨m, (hb.cell (p := ⟨0, 0, none⟩) h0).trans hm⟩
set_option maxRecDepth 100000 in
set_option maxHeartbeats 4000000 in
theorem tokens1_in (n l Bs n₀ : Nat) (hn : 1 ≤ n) (h0n : 0 < n₀) (s : ByteArray) (hs : s.size ≤ 1000000000) (J Jx : List (S36 × Int) → World → Prop) (W0 : World) (hJ : AbidesFrom W0.heap.size J)
    (hY : ∀ pre x W, J pre W → pre.length < (toks s).length → YieldAt Fence.wide (n - 1) Tryd.prog l (tokEnc x) W fun e W' =>
      (e = .returned (.bool true) ∧ J (pre ++ [x]) W' ∧ KpL Bs n₀ W W') ∨ (e = .returned (.bool false) ∧ Jx (pre ++ [x]) W'))
    (hBs : W0.heap[Bs]? = some (.cells #[.string s] 9 (0, 0))) (hG : Gd W0) (h0 : J [] W0) :
    CallsIn Fence.wide n Tryd.prog 60 #[.func (.yield l) #[] #[], .pointer (some ⟨Bs, 0, none⟩)] W0 fun e W' => (∃ v, e = .returned v) ∧
      ((∃ ys, ys = toks s ∧ J ys W') ∨ (∃ pre, pre <+: toks s ∧ Jx pre W')) := by
  refine callsIn_of_wp Tryd.func60 rfl trivial ?_ rfl
  simp only [Tryd.ntmps60, List.size_toArray, List.length_cons, List.length_nil, Nat.reduceAdd, Nat.reduceSub, Array.replicate_succ, Array.replicate_zero, List.push_toArray, List.append_toArray, List.nil_append, List.cons_append]
  have hc0 := blk_cell hBs 0
  simp only [List.getElem?_toArray, List.getElem?_cons_zero] at hc0
  gi_wp2_with (refine ⟨trivial, ?_⟩; gi_at_call 61; refine (callsIn_wide.2 (lexer_blanks.calls _ _ _ _ _ (blanks_some s hs 0 (Nat.zero_le _)))).mono ?_; rintro e w' ⟨rfl, nd, rfl⟩)
  gi_loopw [3] (fun p wr => ∃ (pre : List (S36 × Int)) (k i : Nat), p = .int .i64 (i : Int) ∧ i ≤ s.size ∧ s.size - i ≤ k ∧ toks s = pre ++ toksAt s (k + 1) i ∧ wr.heap[Bs]? = some (.cells #[.string s] 9 (0, 0)) ∧ Gd wr ∧ J pre wr ∧ W0.heap.size ≤ wr.heap.size)
    (fun p _ => match p with | .int _ i => s.size + 1 - i.toNat | _ => 0)
  case atStart =>
    exact ⟨[], s.size, blanksTo s 0, rfl, blanksTo_le s 0 (Nat.zero_le _), by omega, rfl, hBs, hG, hJ _ _ _ none h0 (grown_drewN _ _) (fun r e => by cases e), Nat.le_refl _⟩
  case round =>
    obtain ⟨pre, k, i, rfl, hi, hk, hx, hB, hg, hJs, hsz⟩ := hrel
    have hc0 := blk_cell hB 0
    simp only [List.getElem?_toArray, List.getElem?_cons_zero] at hc0
    by_cases hlt : i < s.size
    · have g1 : decide (i < s.size) = true := decide_eq_true hlt
      have g2 : decide ((i : Int) < (s.size : Int)) = true := decide_eq_true (by omega)
      obtain ⟨t, e, r, ht⟩ : ∃ t e r, nextTok s i = (t, e, r) := ⟨_, _, _, rfl⟩
      gi_wp2_with (refine ⟨trivial, ?_⟩; gi_at_call 62; refine (callsIn_wide.2 (next_calls s i _ (Gd.below hg (by repeat (first | (with_reducible exact Below.refl _ _) | (with_reducible apply pw_below_drewN) | (with_reducible apply below_drew1) | (with_reducible apply below_alloc)))) hs hlt t e r ht)).mono ?_; rintro e' w2 ⟨rfl, hb2⟩; have hb2' : Below wr.heap.size wr (w2.alloc (.cells #[.int .i64 t.f0, .string t.f1, .int .i64 t.f2] 36)) := below_alloc hb2 _; have hB2 := blk_below hB hb2'; have hG2 := Gd.below hg hb2'; have hsz2 := hb2'.size; have hJ2 := hJ _ _ _ none hJs (grown_of_below hb2') (fun r e => by cases e); have hpos := toksAt_pos s k i; obtain ⟨fn, tmps', assign, body, hy, hR⟩ := hY pre (t, r) _ hJ2 (by rw [hx, List.length_append]; omega); dsimp only [tokEnc] at hy)
      refine hR.mono ?_
      rintro e3 W3 (⟨rfl, hJ3, hk3⟩ | ⟨rfl, hx3⟩)
      · by_cases hr : r = 0
        · subst hr
          obtain ⟨q, rfl, hq1, hq2⟩ := nextTok_end s i hlt t e ht
          have hc3 := blk_cell (hk3.2.trans hB2) 0
          simp only [List.getElem?_toArray, List.getElem?_cons_zero] at hc3
          gi_wp2_with (refine ⟨trivial, ?_⟩; gi_at_call 61; refine (callsIn_wide.2 (lexer_blanks.calls _ _ _ _ _ (blanks_some s hs q hq2))).mono ?_; rintro e' w' ⟨rfl, nd, rfl⟩)
          have hge := blanksTo_ge s q
          have hle := blanksTo_le s q hq2
          obtain ⟨k', rfl⟩ : ∃ k', k = k' + 1 := ⟨k - 1, by omega⟩
          go_roundw
          case rel => exact ⟨pre ++ [(t, 0)], k', blanksTo s q, rfl, hle, by omega, by rw [hx, toksAt_ok hlt ht]; simp, hk3.2.trans hB2, Gd.below (Gd.kept hG2 h0n hk3.1) (pw_below_drewN (Below.refl _ _) _), hJ _ _ _ none hJ3 (grown_drewN _ _) (fun r e => by cases e), by have := hk3.1.size; simp; omega⟩
          case measure => simp; omega
        · have hr' : (r != 0) = true := by simpa using hr
          gi_wp2
          refine bodyPost_ret (results_none rfl _ _ _) rfl ?_
          exact ⟨⟨_, rfl⟩, .inl ⟨pre ++ [(t, r)], by rw [hx, toksAt_err hlt ht hr], hJ3⟩⟩
      · gi_wp2
        refine bodyPost_ret (results_none rfl _ _ _) rfl ?_
        refine ⟨⟨_, rfl⟩, .inr ⟨pre ++ [(t, r)], ?_, hx3⟩⟩
        by_cases hr : r = 0
        · subst hr
          obtain ⟨q, rfl, hq1, hq2⟩ := nextTok_end s i hlt t e ht
          exact ⟨toksAt s k (blanksTo s q), by rw [hx, toksAt_ok hlt ht]; simp⟩
        · exact ⟨[], by rw [hx, toksAt_err hlt ht hr]; simp⟩
    · have g1 : decide (i < s.size) = false := decide_eq_false hlt
      have g2 : decide ((i : Int) < (s.size : Int)) = false := decide_eq_false (by omega)
      have hpos := toksAt_pos s k i
      obtain ⟨fn, tmps', assign, body, hy, hR⟩ := hY pre (⟨0, ⟨#[]⟩, s.size⟩, 0) _ hJs (by rw [hx, List.length_append]; omega)
      dsimp only [tokEnc] at hy
      gi_wp2
      refine hR.mono ?_
      rintro e3 W3 (⟨rfl, hJ3, hk3⟩ | ⟨rfl, hx3⟩)
      · gi_wp2
        go_end0
        exact ⟨⟨_, rfl⟩, .inl ⟨_, by rw [hx, toksAt_end hlt], hJ3⟩⟩
      · gi_wp2
        go_end0
        exact ⟨⟨_, rfl⟩, .inr ⟨_, ⟨[], by rw [hx, toksAt_end hlt]; simp⟩, hx3⟩⟩
end
section
open Go.RowKit Go.Proofs.YtmndicibakaceaaDoorW.PrintWords Go.Proofs.YtmndicibakaceaaDoorW.PrintLast Go.Proofs.YtmndicibakaceaaDoorW.PrintMore
attribute [local go_sem] Oper.semAt_some
def scanToks : List (S36 × Int) → List S36 → List S36 × Int × Int
  | [], acc => (acc, 0, 0)
  | (t, r) :: l, acc => if r = 0 then scanToks l (acc ++ [t]) else ([], t.f2, r)
def lexOf (s : ByteArray) : List S36 × Int × Int := if 65536 < s.size then ([], 0, 7) else scanToks (toks s) []
def lexer_Lex.f (a0 : ByteArray) : Option (List S36 × Int × Int) := if a0.size ≤ 9223372036854775807 then some (lexOf a0) else none
theorem scan_ok : ∀ (l : List (S36 × Int)) (acc : List S36), (∀ x ∈ l, x.2 = 0) → scanToks l acc = (acc ++ l.map (·.1), 0, 0)
  | [], acc, _ => by simp [scanToks]
  | (t, r) :: l, acc, h => by
    have hr : r = 0 := h (t, r) (List.mem_cons_self ..)
    subst hr
    rw [scanToks, if_pos rfl, scan_ok l _ (fun x hx => h x (List.mem_cons_of_mem _ hx))]; simp
theorem scan_err : ∀ (l : List (S36 × Int)) (acc : List S36) (t : S36) (r : Int) (m : List (S36 × Int)), (∀ x ∈ l, x.2 = 0) → r ≠ 0 → scanToks (l ++ (t, r) :: m) acc = ([], t.f2, r)
  | [], acc, t, r, m, _, hr => by simp [scanToks, hr]
  | (u, q) :: l, acc, t, r, m, h, hr => by
    have hq : q = 0 := h (u, q) (List.mem_cons_self ..)
    subst hq
    rw [List.cons_append, scanToks, if_pos rfl, scan_err l _ t r m (fun x hx => h x (List.mem_cons_of_mem _ hx)) hr]
def flatT (l : List (S36 × Int)) : List Value := l.flatMap fun x => [.int .i64 x.1.f0, .string x.1.f1, .int .i64 x.1.f2]
theorem flatT_snoc (l : List (S36 × Int)) (x : S36 × Int) : flatT (l ++ [x]) = flatT l ++ [.int .i64 x.1.f0, .string x.1.f1, .int .i64 x.1.f2] := by simp [flatT]
theorem flatT_reps (w : World) (base : Nat) (ok : Nat → Prop) : ∀ l : List (S36 × Int), Reps (k36.M w base ok) 3 (l.map (·.1)) (flatT l) := by
  suffices h : ∀ (l pre : List (S36 × Int)), Reps (k36.M w base ok) 3 (pre.map (·.1)) (flatT pre) → Reps (k36.M w base ok) 3 ((pre ++ l).map (·.1)) (flatT (pre ++ l)) by
    intro l
    simpa using h l [] (Reps.none _ _)
  intro l
  induction l with
  | nil => intro pre h; simpa using h
  | cons x l ih =>
    intro pre h
    have := ih (pre ++ [x]) (by rw [flatT_snoc, List.map_append]; exact h.snoc (k36_mkM w base ok x.1) rfl)
    simpa using this
theorem rowT {w : World} {base : Nat} {v : Value} {l : List (S36 × Int)} (h : w.ownsRow base 36 3 v l.length (flatT l)) : Kd.R k36 36 w base (fun _ => True) v (l.map (·.1)) :=
  ⟨fun _ _ => trivial, flatT l, by rw [List.length_map]; exact h, flatT_reps _ _ _ _⟩
theorem toksAt_length (s : ByteArray) : ∀ (k i : Nat), (toksAt s k i).length ≤ k
  | 0, _ => Nat.le_refl _
  | k + 1, i => by
    have := fun j => toksAt_length s k j
    unfold toksAt
    split
    · split
      · simp; exact this _
      · simp
    · simp
theorem infoT : (Tryd.prog.info? 36).map (fun i => (i.zero, i.size, i.bytes)) = some (some (.agg #[.int .i64 0, .string ⟨#[]⟩, .int .i64 0]), 3, 32) := by kernel_rfl
theorem tokens_in (n : Nat) (s : ByteArray) (w : World) :
    CallsIn Fence.wide n Tryd.prog 33 #[.string s] w fun e w' => e = .returned (.func (.func 60) #[] #[.pointer (some ⟨w.heap.size, 0, none⟩)]) ∧ w' = w.alloc (.cells #[.string s] 9) := by
  refine callsIn_of_wp Tryd.func33 rfl trivial ?_ rfl
  simp only [Tryd.ntmps33, List.size_toArray, List.length_cons, List.length_nil, Nat.reduceAdd, Nat.reduceSub, Array.replicate_succ, Array.replicate_zero, List.push_toArray, List.append_toArray, List.nil_append, List.cons_append]
  gi_wp2
  go_ret
  exact ⟨rfl, rfl⟩
theorem boxed_own {W W' : World} {row : Option Nat} {B C : Nat} {t : TypeId} {v : Value} (h : Boxed W B t v) (hg : W.grownBy W' row) (hr : ∀ r, row = some r → C ≤ r ∧ ∃ o : Obj, W.heap[r]? = some o ∧ o.isCells = false) : Boxed W' B t v :=
  h.kept hg (fun e' => by
    obtain ⟨_, o, ho, hc⟩ := hr B e'.symm
    rw [show W.heap[B]? = _ from h] at ho; cases ho; cases hc)
theorem blk_own {W W' : World} {row : Option Nat} {B C : Nat} {o : Obj} (h : W.heap[B]? = some o) (ho : o.isCells = true) (hg : W.grownBy W' row) (hr : ∀ r, row = some r → C ≤ r ∧ ∃ o : Obj, W.heap[r]? = some o ∧ o.isCells = false) : W'.heap[B]? = some o :=
  (hg.block B (blk_lt h) (fun e' => by
    obtain ⟨_, o', ho', hc⟩ := hr B e'.symm
    rw [h] at ho'; cases ho'; rw [ho] at hc; cases hc)).trans h
/-- what the loop of Lex keeps. -/
def LexI (w : World) (s : ByteArray) (pre : List (S36 × Int)) (W : World) : Prop :=
  (∃ v, Boxed W (w.heap.size + 1 + 1 + 1) 23 v ∧ W.ownsRow w.heap.size 36 3 v pre.length (flatT pre) ∧ True) ∧
  ((∀ x ∈ pre, x.2 = 0) ∧ Boxed W w.heap.size 23 (.slice none 0 0) ∧ Boxed W (w.heap.size + 1) 3 (.int .i64 0) ∧ Boxed W (w.heap.size + 1 + 1) 24 (.int .i64 0) ∧ Boxed W (w.heap.size + 1 + 1 + 1 + 1) 9 (.string s)) ∧ Below w.heap.size w W
/-- how it leaves the loop at an error. -/
def LexX (w : World) (c : Code) (pre : List (S36 × Int)) (W : World) : Prop :=
  (c = .ret ∧ ∃ (pre' : List (S36 × Int)) (t : S36) (r : Int), pre = pre' ++ [(t, r)] ∧ (∀ x ∈ pre', x.2 = 0) ∧ r ≠ 0 ∧ Boxed W w.heap.size 23 (.slice none 0 0) ∧ Boxed W (w.heap.size + 1) 3 (.int .i64 t.f2) ∧ Boxed W (w.heap.size + 1 + 1) 24 (.int .i64 r)) ∧ Below w.heap.size w W
theorem LexI_own (w : World) (s : ByteArray) {C : Nat} (hC : w.heap.size ≤ C) : OwnFrom C (LexI w s) := by
  refine OwnFrom.and (Own.from (holdsRow_own w.heap.size (w.heap.size + 1 + 1 + 1) 23 36 3 (fun pre : List (S36 × Int) => pre.length) flatT (fun _ _ => True)) _) (OwnFrom.and ?_ (ownFrom_below (Nat.le_refl _) hC))
  rintro pre W W' row ⟨h0, h1, h2, h3, h4⟩ hg hr
  exact ⟨h0, boxed_own h1 hg hr, boxed_own h2 hg hr, boxed_own h3 hg hr, boxed_own h4 hg hr⟩
theorem LexX_own (w : World) (c : Code) {C : Nat} (hC : w.heap.size ≤ C) : OwnFrom C (LexX w c) := by
  refine OwnFrom.and ?_ (ownFrom_below (Nat.le_refl _) hC)
  rintro pre W W' row ⟨hc, pre', t, r, h0, h1, h2, h3, h4, h5⟩ hg hr
  exact ⟨hc, pre', t, r, h0, h1, h2, boxed_own h3 hg hr, boxed_own h4 hg hr, boxed_own h5 hg hr⟩
/-- the frame of a round. -/
def LexA (w : World) (s : ByteArray) (x : S36 × Int) (a' : Act) (W : World) : Prop :=
  ∃ T : Nat, w.heap.size ≤ T ∧ a' = { tmps := #[.string s, undef, .pointer (some ⟨w.heap.size, 0, none⟩), .pointer (some ⟨w.heap.size + 1, 0, none⟩), .pointer (some ⟨w.heap.size + 1 + 1, 0, none⟩), .pointer (some ⟨w.heap.size + 1 + 1 + 1, 0, none⟩), .pointer (some ⟨T, 0, none⟩), .int .i64 x.2, .string s, .int .i64 s.size, .bool false, .string s, .func (.func 60) #[] #[.pointer (some ⟨w.heap.size + 1 + 1 + 1 + 1, 0, none⟩)], .agg #[.int .i64 x.1.f0, .string x.1.f1, .int .i64 x.1.f2], .int .i64 x.2, undef, undef, undef, undef, undef, undef, undef, undef, undef, undef], defers := [] } ∧ W.heap[T]? = some (.cells #[.int .i64 x.1.f0, .string x.1.f1, .int .i64 x.1.f2] 36 (0, 0))
theorem lexStop {w W : World} {s : ByteArray} {pre : List (S36 × Int)} {t : S36} {r : Int} {B : Nat} (hp : ∀ x ∈ pre, x.2 = 0) (hr : r ≠ 0) (c0 : Boxed W w.heap.size 23 (.slice none 0 0)) (c1 : Boxed W (w.heap.size + 1) 3 (.int .i64 0)) (c2 : Boxed W (w.heap.size + 1 + 1) 24 (.int .i64 0)) (hB : Below w.heap.size w W) (Kp : World → World → Prop) (a : Act) :
    ownPostG B Kp (LexI w s) (LexX w) (pre ++ [(t, r)]) W .ret a (((W.setCell ⟨w.heap.size, 0, none⟩ (.slice none 0 0)).setCell ⟨w.heap.size + 1, 0, none⟩ (.int .i64 t.f2)).setCell ⟨w.heap.size + 1 + 1, 0, none⟩ (.int .i64 r)).drew :=
  ⟨((((KeepsOthers.setCell _ _ _).trans (KeepsOthers.setCell _ _ _)).trans (KeepsOthers.setCell _ _ _)).trans (KeepsOthers.drew _)).from _,
    ⟨rfl, pre, t, r, rfl, hp, hr, ((c0.set _).other (by omega) _).other (by omega) _, ((c1.other (by omega) _).set _).other (by omega) _, ((c2.other (by omega) _).other (by omega) _).set _⟩,
    (((hB.setCell (p := ⟨w.heap.size, 0, none⟩) (Nat.le_refl _) _).setCell (p := ⟨w.heap.size + 1, 0, none⟩) (Nat.le_succ _) _).setCell (p := ⟨w.heap.size + 1 + 1, 0, none⟩) (by show w.heap.size ≤ w.heap.size + 1 + 1; omega) _).drew⟩
theorem lexResults {w X : World} {tmps : Array Value} {v : Value} {i r : Int} (h0 : tmps.getD 2 undef = .pointer (some ⟨w.heap.size, 0, none⟩)) (h1 : tmps.getD 3 undef = .pointer (some ⟨w.heap.size + 1, 0, none⟩)) (h2 : tmps.getD 4 undef = .pointer (some ⟨w.heap.size + 1 + 1, 0, none⟩))
    (c0 : Boxed X w.heap.size 23 v) (c1 : Boxed X (w.heap.size + 1) 3 (.int .i64 i)) (c2 : Boxed X (w.heap.size + 1 + 1) 24 (.int .i64 r)) :
    (results Tryd.f12 tmps).run Tryd.prog X = .ok (.tuple #[v, .int .i64 i, .int .i64 r]) X := by
  have k0 := c0.cell
  have k1 := c1.cell
  have k2 := c2.cell
  rw [Array.getD_eq_getD_getElem?] at h0 h1 h2
  simp [results, Tryd.f12, go_sem, h0, h1, h2, k0, k1, k2]
theorem three_new (W : World) (a b c : Value) (e : TypeId) : ∀ j u, ([a, b, c] : List Value)[j]? = some u → (W.alloc (.cells #[a, b, c] e)).cell? ((⟨W.heap.size, 0, none⟩ : Addr).add j) = some u := by
  intro j u h
  have hb := blk_new W (.cells #[a, b, c] e)
  rw [show (⟨W.heap.size, 0, none⟩ : Addr).add j = ⟨W.heap.size, j, none⟩ by unfold Addr.add; simp; intro h; exact h.symm]
  rw [blk_cell hb, List.getElem?_toArray]
  exact h
set_option maxRecDepth 100000 in
set_option maxHeartbeats 4000000 in
theorem lexer_Lex.calls (a0 : ByteArray) (r1 : List S36) (r2 : Int) (r3 : Int) (w : World) (h : lexer_Lex.f a0 = some (r1, r2, r3)) (hG : Gd w) :
    Calls Tryd.prog 12 #[.string a0] w fun e w' => ∃ v0_ : Value, e = .returned (.tuple #[v0_, .int .i64 r2, .int .i64 r3]) ∧ Kd.R k36 36 w' w.heap.size (fun _ => True) v0_ r1 ∧ Below w.heap.size w w' := by
  unfold lexer_Lex.f at h
  split at h
  case isFalse => cases h
  case isTrue hsz =>
  have h := Option.some.inj h
  obtain ⟨i0, hi, hz0, hz1, hz2⟩ := info_parts infoT
  refine (callsIn_wide (n := 5)).1 ?_
  unfold lexOf at h
  by_cases hbig : 65536 < a0.size
  · rw [if_pos hbig] at h
    have g1 : decide (65536 < a0.size) = true := decide_eq_true hbig
    have g2 : decide ((65536 : Int) < (a0.size : Int)) = true := decide_eq_true (by omega)
    refine callsIn_of_wp_marks Tryd.func12 rfl trivial ?_ rfl
    simp only [Tryd.ntmps12, List.size_toArray, List.length_cons, List.length_nil, Nat.reduceAdd, Nat.reduceSub, Array.replicate_succ, Array.replicate_zero, List.push_toArray, List.append_toArray, List.nil_append, List.cons_append]
    gi_wp2
    injection h with e1 h
    injection h with e2 e3
    subst e1 e2 e3
    have b0 : Boxed (((w.alloc (.cells #[.slice none 0 0] 23)).alloc (.cells #[.int .i64 0] 3)).alloc (.cells #[.int .i64 7] 24)) w.heap.size 23 (.slice none 0 0) := ((Boxed.new w _ _).alloc _).alloc _
    have b1 : Boxed (((w.alloc (.cells #[.slice none 0 0] 23)).alloc (.cells #[.int .i64 0] 3)).alloc (.cells #[.int .i64 7] 24)) (w.heap.size + 1) 3 (.int .i64 0) := by
      have h := Boxed.new (w.alloc (.cells #[.slice none 0 0] 23)) 3 (.int .i64 0)
      rw [World.size_alloc] at h; exact h.alloc _
    have b2 : Boxed (((w.alloc (.cells #[.slice none 0 0] 23)).alloc (.cells #[.int .i64 0] 3)).alloc (.cells #[.int .i64 7] 24)) (w.heap.size + 1 + 1) 24 (.int .i64 7) := by
      have h := Boxed.new ((w.alloc (.cells #[.slice none 0 0] 23)).alloc (.cells #[.int .i64 0] 3)) 24 (.int .i64 7)
      rw [World.size_alloc, World.size_alloc] at h; exact h
    exact ⟨_, lexResults rfl rfl rfl b0 b1 b2, _, rfl, Kd.R_nil _ _ _ _ _, below_alloc (below_alloc (below_alloc (Below.refl _ _) _) _) _⟩
  · rw [if_neg hbig] at h
    have g1 : decide (65536 < a0.size) = false := decide_eq_false hbig
    have g2 : decide ((65536 : Int) < (a0.size : Int)) = false := decide_eq_false (by omega)
    refine callsIn_of_wp_marks Tryd.func12 rfl trivial ?_ rfl
    simp only [Tryd.ntmps12, List.size_toArray, List.length_cons, List.length_nil, Nat.reduceAdd, Nat.reduceSub, Array.replicate_succ, Array.replicate_zero, List.push_toArray, List.append_toArray, List.nil_append, List.cons_append]
    gi_wp2_with (refine ⟨trivial, ?_⟩; gi_at_call 33; refine (tokens_in _ a0 _).mono ?_; rintro e w' ⟨rfl, rfl⟩)
    obtain ⟨W1, hW1⟩ : ∃ W1, ((((w.alloc (.cells #[.slice none 0 0] 23)).alloc (.cells #[.int .i64 0] 3)).alloc (.cells #[.int .i64 0] 24)).alloc (.cells #[.slice none 0 0] 23)).alloc (.cells #[.string a0] 9) = W1 := ⟨_, rfl⟩
    have hsz1 : W1.heap.size = w.heap.size + 5 := by rw [← hW1]; simp
    have b0 : Boxed W1 w.heap.size 23 (.slice none 0 0) := by rw [← hW1]; exact ((((Boxed.new w _ _).alloc _).alloc _).alloc _).alloc _
    have b1 : Boxed W1 (w.heap.size + 1) 3 (.int .i64 0) := by
      rw [← hW1]; have h := Boxed.new (w.alloc (.cells #[.slice none 0 0] 23)) 3 (.int .i64 0)
      rw [World.size_alloc] at h; exact ((h.alloc _).alloc _).alloc _
    have b2 : Boxed W1 (w.heap.size + 1 + 1) 24 (.int .i64 0) := by
      rw [← hW1]; have h := Boxed.new ((w.alloc (.cells #[.slice none 0 0] 23)).alloc (.cells #[.int .i64 0] 3)) 24 (.int .i64 0)
      rw [World.size_alloc, World.size_alloc] at h; exact (h.alloc _).alloc _
    have b3 : Boxed W1 (w.heap.size + 1 + 1 + 1) 23 (.slice none 0 0) := by
      rw [← hW1]; have h := Boxed.new (((w.alloc (.cells #[.slice none 0 0] 23)).alloc (.cells #[.int .i64 0] 3)).alloc (.cells #[.int .i64 0] 24)) 23 (.slice none 0 0)
      rw [World.size_alloc, World.size_alloc, World.size_alloc] at h; exact h.alloc _
    have b4 : Boxed W1 (w.heap.size + 1 + 1 + 1 + 1) 9 (.string a0) := by
      rw [← hW1]; have h := Boxed.new ((((w.alloc (.cells #[.slice none 0 0] 23)).alloc (.cells #[.int .i64 0] 3)).alloc (.cells #[.int .i64 0] 24)).alloc (.cells #[.slice none 0 0] 23)) 9 (.string a0)
      rw [World.size_alloc, World.size_alloc, World.size_alloc, World.size_alloc] at h; exact h
    have hb : Below w.heap.size w W1 := by
      rw [← hW1]; exact below_alloc (below_alloc (below_alloc (below_alloc (below_alloc (Below.refl _ _) _) _) _) _) _
    have hG1 := Gd.below hG hb
    have h0n : 0 < w.heap.size := by
      obtain ⟨m, hm⟩ := hG
      refine Nat.pos_of_ne_zero (fun e => ?_)
      rw [World.cell?, Array.getElem?_eq_none (by omega)] at hm
      cases hm
    rw [hW1]
    refine wpIn_rangeFunc_ownH (encs := tokEnc) (Kp := KpL (w.heap.size + 1 + 1 + 1 + 1) w.heap.size) (S := fun ys => ys = toks a0) (Sp := fun pre => pre <+: toks a0) (N := (toks a0).length) (w0 := W1)
      rfl (by omega) (gf := 60) (lb := #[.pointer (some ⟨w.heap.size + 1 + 1 + 1 + 1, 0, none⟩)]) rfl trivial (enters_of Tryd.func60 (by kernel_rfl) rfl)
      (fun l J Jx W hW hJ _ hY h0 => tokens1_in _ l (w.heap.size + 1 + 1 + 1 + 1) w.heap.size (by omega) h0n a0 (by omega) J Jx W hJ hY (blk_below b4 hW) (Gd.below hG1 hW) h0)
      (fun h k => h.trans k) (fun W l o o' hl ho hc hw => ⟨belowK_b (w := W1) (by omega) W l o o' hl ho hc hw, World.putObj_heap_other (by omega)⟩) (Below.refl _ _) (fun _ => rfl)
      (LexI w a0) (LexX w) (LexI_own w a0 (by omega)) (fun c => LexX_own w c (by omega))
      ⟨⟨_, b3, World.ownsRow_nil _ _ _ _, trivial⟩, ⟨fun x hx => by simp at hx, b0, b1, b2, b4⟩, hb⟩
      (LexA w a0) (fun x a' => by
        rintro _ W W' row ⟨T, h0, h1, h2⟩ hg hr
        exact ⟨T, h0, h1, blk_own h2 rfl hg hr⟩) ?assign ?body ?done ?stop
    case assign =>
      rintro l pre ⟨t, r⟩ W K hI hK
      have hsW : w.heap.size ≤ W.heap.size := hI.2.2.size
      dsimp only [tokEnc]
      gi_wp2
      refine hK _ _ ((KeepsOthers.alloc W _).from _) ⟨below_alloc (Below.refl _ _) _ |>.mono hsW, Below.heap_alloc _ _ _ (hI.2.1.2.2.2.2).lt⟩ ((LexI_own w a0 (Nat.le_refl _)).alloc _ hI) ⟨W.heap.size, hsW, rfl, blk_new _ _⟩
    case body =>
      rintro l pre ⟨t, r⟩ a' W hl hrec ⟨⟨v, hv, hrow, -⟩, ⟨hp, c0, c1, c2, c4⟩, hB⟩ ⟨T, hT, rfl, hTb⟩ hlen
      have hcv := hv.cell
      have t0 := blk_cell hTb 0
      have t1 := blk_cell hTb 1
      have t2 := blk_cell hTb 2
      simp only [List.getElem?_toArray, List.getElem?_cons_zero, List.getElem?_cons_succ] at t0 t1 t2
      by_cases hr : r = 0
      · subst hr
        gi_wp2_with (gi_at_builtin; refine wpListIn_append_own _ rfl _ _ 23 rfl w.heap.size 36 i0 (.agg #[.int .i64 0, .string ⟨#[]⟩, .int .i64 0]) 3 32 Tryd.underlying23 hi hz0 hz1 hz2 rfl (by decide) _ _ _ rfl (hrow.alloc _) ⟨W.heap.size, 0, none⟩ 1 1 [.int .i64 t.f0, .string t.f1, .int .i64 t.f2] rfl rfl (three_new _ _ _ _ _) (by simp [Value.oneCell']) (by have := toksAt_length a0 (a0.size + 1) (blanksTo a0 0); unfold toks at hlen; unfold maxLen; omega) (by have := toksAt_length a0 (a0.size + 1) (blanksTo a0 0); unfold toks at hlen; omega) (by have := hB.size; simp; omega) ?_; intro v' w1 hown' hgrow _; obtain ⟨g', cap', rfl⟩ := ownsRow_succ hown'; obtain ⟨hv1, hv2, hr2, hk2, hb2⟩ := hv.appended (by decide) hrow hB.size (by omega) hown' hgrow; have hc1 := hv1.cell; have hf1 := hv1.frozen)
        have keep : ∀ {B : Nat} {q : TypeId} {u : Value}, Boxed W B q u → q ≠ 36 → B ≠ w.heap.size + 1 + 1 + 1 → Boxed (w1.setCell ⟨w.heap.size + 1 + 1 + 1, 0, none⟩ (.slice (some ⟨g', 0, none⟩) (pre.length + 1) cap')) B q u := fun hb ht hne => ((hb.alloc _).kept hgrow (hb.not_row ht hrow)).other hne _
        refine ⟨hk2.from _, ⟨hb2, (keep c4 (by decide) (by omega)).trans (Eq.symm c4)⟩, ⟨_, hv2, by rw [flatT_snoc]; simpa using hr2, trivial⟩, ⟨?_, keep c0 (by decide) (by omega), keep c1 (by decide) (by omega), keep c2 (by decide) (by omega), keep c4 (by decide) (by omega)⟩, hB.trans hb2⟩
        intro x hx
        rcases List.mem_append.1 hx with hx | hx
        · exact hp x hx
        · simp at hx; subst hx; rfl
      · have hr' : (r != 0) = true := by simpa using hr
        have f0 := c0.frozen
        have f1 := c1.frozen
        have f2 := c2.frozen
        have k0 := c0.cell
        have k1 := c1.cell
        have k2 := c2.cell
        gi_wp2
        gi_region
        all_goals gi_wp2
        all_goals exact lexStop hp hr c0 c1 c2 hB _ _
    case done =>
      rintro D xs W hD rfl ⟨⟨v, hv, hrow, -⟩, ⟨hp, c0, c1, c2, c4⟩, hB⟩ hK
      obtain ⟨A, c, rfl⟩ := own_slice hrow
      have hcv := hv.cell
      have f0 := c0.frozen
      have f1 := c1.frozen
      have f2 := c2.frozen
      have k0 := c0.cell
      have k1 := c1.cell
      have k2 := c2.cell
      gi_wp2
      rw [scan_ok _ _ hp] at h
      injection h with e1 h
      injection h with e2 e3
      subst e1 e2 e3
      have hK' := (KeepsOthers.setCell _ ⟨w.heap.size + 1 + 1, 0, none⟩ (.int .i64 0)).same D _ ((KeepsOthers.setCell _ ⟨w.heap.size + 1, 0, none⟩ (.int .i64 0)).same D _ ((KeepsOthers.setCell W ⟨w.heap.size, 0, none⟩ (.slice A (toks a0).length c)).same D _ hK rfl) rfl) rfl
      have x0 := ((c0.set (.slice A (toks a0).length c)).other (B' := w.heap.size + 1) (by omega) (.int .i64 0)).other (B' := w.heap.size + 1 + 1) (by omega) (.int .i64 0)
      have x1 := ((c1.other (B' := w.heap.size) (by omega) (.slice A (toks a0).length c)).set (.int .i64 0)).other (B' := w.heap.size + 1 + 1) (by omega) (.int .i64 0)
      have x2 := ((c2.other (B' := w.heap.size) (by omega) (.slice A (toks a0).length c)).other (B' := w.heap.size + 1) (by omega) (.int .i64 0)).set (.int .i64 0)
      have hr0 := own_setCell hrow (p := ⟨w.heap.size, 0, none⟩) (c0.not_row (by decide) hrow) (.slice A (toks a0).length c)
      have hr1 := own_setCell hr0 (p := ⟨w.heap.size + 1, 0, none⟩) ((c1.other (B' := w.heap.size) (by omega) (.slice A (toks a0).length c)).not_row (by decide) hr0) (.int .i64 0)
      have hr2 := own_setCell hr1 (p := ⟨w.heap.size + 1 + 1, 0, none⟩) (((c2.other (B' := w.heap.size) (by omega) (.slice A (toks a0).length c)).other (B' := w.heap.size + 1) (by omega) (.int .i64 0)).not_row (by decide) hr1) (.int .i64 0)
      have hX := ((hB.setCell (p := ⟨w.heap.size, 0, none⟩) (Nat.le_refl _) (.slice A (toks a0).length c)).setCell (p := ⟨w.heap.size + 1, 0, none⟩) (Nat.le_succ _) (.int .i64 0)).setCell (p := ⟨w.heap.size + 1 + 1, 0, none⟩) (by show w.heap.size ≤ w.heap.size + 1 + 1; omega) (.int .i64 0)
      have hne : ∀ {B : Nat} {q : TypeId} {u : Value}, Boxed (((W.setCell ⟨w.heap.size, 0, none⟩ (.slice A (toks a0).length c)).setCell ⟨w.heap.size + 1, 0, none⟩ (.int .i64 0)).setCell ⟨w.heap.size + 1 + 1, 0, none⟩ (.int .i64 0)) B q u → Boxed ((((W.setCell ⟨w.heap.size, 0, none⟩ (.slice A (toks a0).length c)).setCell ⟨w.heap.size + 1, 0, none⟩ (.int .i64 0)).setCell ⟨w.heap.size + 1 + 1, 0, none⟩ (.int .i64 0)).putObj D (.deferred none)) B q u := fun hb => hb.kept (grownBy_putObj' _ D _) (fun e => by
        injection e with e; subst e
        rw [show _ = _ from hb] at hK'; cases hK')
      refine ⟨by simp, .inl ⟨_, _, rfl, run_takeDeferred hK', ?_⟩⟩
      exact ⟨_, lexResults rfl rfl rfl (hne x0) (hne x1) (hne x2), _, rfl, rowT (ownsRow_putObj hr2 _ hK' rfl), hX.trans (belowK_b (w := W1) (by omega) _ D _ _ hD hK' rfl rfl)⟩
    case stop =>
      rintro D c pre W hD hpre ⟨⟨rfl, pre', t, r, hpe, hp, hr, c0, c1, c2⟩, hB⟩ hK
      gi_wp2
      subst hpe
      obtain ⟨m, hm⟩ := hpre
      rw [← hm, List.append_assoc, List.singleton_append, scan_err _ _ _ _ _ hp hr] at h
      injection h with e1 h
      injection h with e2 e3
      subst e1 e2 e3
      have hne : ∀ {B : Nat} {q : TypeId} {u : Value}, Boxed W B q u → Boxed (W.putObj D (.deferred none)) B q u := fun hb => hb.kept (grownBy_putObj' _ D _) (fun e => by
        injection e with e; subst e
        rw [show _ = _ from hb] at hK; cases hK)
      refine ⟨by simp, .inl ⟨_, _, rfl, run_takeDeferred hK, ?_⟩⟩
      exact ⟨_, lexResults rfl rfl rfl (hne c0) (hne c1) (hne c2), _, rfl, Kd.R_nil _ _ _ _ _, hB.trans (belowK_b (w := W1) (by omega) _ D _ _ hD hK rfl rfl)⟩
end
end Go.Proofs.YtmndicibakaceaaDoor.Pr
