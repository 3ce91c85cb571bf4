/- strings.Builder's WriteString, with what it leaves alone: two builders at once go by it. | LexerReturns: the walk: with any source and any kinds of gaps the call answers true. | LexerReturns: the walk: with any source and any kinds of gaps the call answers true. -/
import Derived.Test.YtmndicibakaceaaDoorExtW
import Derived.Test.YtmndicibakaceaaDoorPr0
import Derived.Test.YtmndicibakaceaaDoorPuRt
import Derived.Test.YtmndicibakaceaaDoorShelf
import Derived.Lib.UnsafeStr
import Derived.Test.YtmndicibakaceaaDoorPr99
import Derived.Test.YtmndicibakaceaaDoorPr21
namespace Go.Proofs.YtmndicibakaceaaDoor.Pr
section
open Go.RowKit Go.Proofs.YtmndicibakaceaaDoorW.PrintWords Go.Proofs.YtmndicibakaceaaDoorW.PrintLast Go.Proofs.YtmndicibakaceaaDoorW.PrintMore
/-- where the row lies behind append(v, s...): it is v's own, or new. -/
theorem append_string_at {P : Program} (w : World) (base : Nat) (t u ty e : TypeId) (i : TypeInfo) (ht : P.underlying t = some (.slice e)) (hu : P.underlying u = some .string) (hi : P.info? e = some i) (hz : i.zero = some (.int .u8 0))
    (hsize : i.size = 1) (hby : i.bytes = 1) (v : Value) (n : Nat) (xs : List Value) (hown : w.ownsRow base e 1 v n xs) (s : ByteArray) (hbytes : n + s.size ≤ 140737488355328) (hbase : base ≤ w.heap.size) :
    ∃ v' w', (Builtin.append_ #[t, u] ty #[v, .string s]).run P w = .ok v' w' ∧ w'.ownsRow base e 1 v' (n + s.size) (xs ++ Lib.strCells s) ∧ w.grownBy w' v.ownBlock ∧ (v'.ownBlock = v.ownBlock ∨ v'.ownBlock = some w.heap.size) := by
  have h63 : n + s.size ≤ maxLen := by unfold maxLen; omega
  obtain ⟨v', w', hr, h2, h3, h4⟩ := Lib.run_append_own_string (P := P) w base t u ty e i ht hu hi hz hsize hby v n xs hown s h63 hbytes hbase
  refine ⟨v', w', hr, h2, h3, ?_⟩
  have hxl : xs.length = n := by simpa using hown.1
  rcases hown.2 with ⟨rfl, rfl⟩ | ⟨g, cap, cur, rfl, hbg, hg, hnc, hcm, hcs, htake⟩
  · by_cases hm : s.size = 0
    · rw [h4.2 ⟨rfl, hm⟩]; exact .inl rfl
    · have hq := run_append_nil_string (P := P) w t u ty e i (.int .u8 0) ht hu hi hz s (by omega) (by omega) (by rw [hby]; omega)
      rw [hq] at hr
      injection hr with hv _
      rw [← hv]; exact .inr rfl
  · have hcs' : cur.size = cap := by simpa using hcs
    by_cases hroom : n + s.size ≤ cap
    · have hq := Lib.run_append_room_string (P := P) w t u ty e i ht hu hi hsize g n cap cur hg s hroom (by omega)
      rw [hq] at hr
      injection hr with hv _
      rw [← hv]; exact .inl rfl
    · have holds : ∀ j u, xs[j]? = some u → w.cell? ((⟨g, 0, none⟩ : Addr).add j) = some u := World.ownsRow.cells (g := g) ⟨hown.1, hown.2⟩ rfl
      have hq := Lib.run_append_grow_string (P := P) w t u ty e i (.int .u8 0) ht hu hi hz ⟨g, 0, none⟩ n cap xs (by rw [hsize]; simpa using hxl) holds s (by omega) (by omega) (by rw [hby]; exact growslice_fits (by omega) (by omega))
      rw [hq] at hr
      injection hr with hv _
      rw [← hv]; exact .inr rfl
section
variable {P : Program}
theorem wpList_append_string_at (w : World) {ops : Array Oper} {rest : List Oper} {o : Oper} {a : Act} {Q : Exit → Act → World → Prop} (hgd : o.guard = none) (sl x : Operand) (t u : TypeId)
    (ho : o.op = .call { callee := .builtin .append, args := #[sl, x], argTypes := #[t, u] })
    (base : Nat) (e : TypeId) (i : TypeInfo) (ht : P.underlying t = some (.slice e)) (hu : P.underlying u = some .string) (hi : P.info? e = some i) (hz : i.zero = some (.int .u8 0))
    (hsize : i.size = 1) (hby : i.bytes = 1)
    (v : Value) (n : Nat) (xs : List Value) (hs : a.eval sl = v) (hown : w.ownsRow base e 1 v n xs) (s : ByteArray) (hx : a.eval x = .string s)
    (hbytes : n + s.size ≤ 140737488355328) (hbase : base ≤ w.heap.size)
    (h : ∀ v' w', w'.ownsRow base e 1 v' (n + s.size) (xs ++ Lib.strCells s) → w.grownBy w' v.ownBlock → (v'.ownBlock = v.ownBlock ∨ v'.ownBlock = some w.heap.size) → wpList P ops Q rest (a.put o.dst v') w') : wpList P ops Q (o :: rest) a w := by
  refine wpList_plain hgd fun K hK => ?_
  obtain ⟨v', w', hr, h2, h3, h4⟩ := append_string_at (P := P) w base t u o.type e i ht hu hi hz hsize hby v n xs hown s hbytes hbase
  unfold Oper.wp execOp
  simp only [ho, resolve, invoke, builtin, Sem.run_bind, Sem.run_pure, Result.andThen_ok, List.map_toArray, List.map_cons, List.map_nil, hs, hx, hr]
  exact hK _ _ (h v' w' h2 h3 h4)
end
/-- a builder of the call's own: what it holds, and where. -/
def BV (B b : Nat) (p v : Value) (bs : List Value) (w : World) : Prop :=
  B ≤ b ∧ w.heap[b]? = some (.cells #[p, v] 40 (0, 0)) ∧ w.ownsRow B 5 1 v bs.length bs
/-- what a write into builder b leaves alone. -/
def Apart1 (b : Nat) (v v' : Value) (w w' : World) : Prop :=
  w.heap.size ≤ w'.heap.size ∧ (∀ k, k < w.heap.size → k ≠ b → some k ≠ v.ownBlock → w'.heap[k]? = w.heap[k]?) ∧ (v'.ownBlock = v.ownBlock ∨ ∃ q, v'.ownBlock = some q ∧ w.heap.size ≤ q)
theorem BV.ne {B b : Nat} {p v : Value} {bs : List Value} {w : World} (h : BV B b p v bs w) : v.ownBlock ≠ some b := Lib.ownBlock_ne h.2.2 h.2.1 (by decide)
theorem BV.at {B b : Nat} {p v : Value} {bs : List Value} {w : World} (h : BV B b p v bs w) : Lib.BuilderAt 40 5 B b p bs w := ⟨h.1, v, h.2.1, h.2.2, h.ne⟩
theorem BV.lt {B b : Nat} {p v : Value} {bs : List Value} {w : World} (h : BV B b p v bs w) : b < w.heap.size := blk_lt h.2.1
set_option maxHeartbeats 2000000 in
set_option maxRecDepth 100000 in
theorem writeString_V (B b : Nat) (p v : Value) (bs : List Value) (s : ByteArray) (w : World) (hp : p = .pointer none ∨ p = .pointer (some ⟨b, 0, none⟩)) (h : BV B b p v bs w) (hlen : bs.length + s.size ≤ 140737488355328) (hBw : B ≤ w.heap.size) :
    Calls Tryd.prog 27 #[.pointer (some ⟨b, 0, none⟩), .string s] w fun e w' => e = .returned (.tuple #[.int .i64 s.size, .nilIface]) ∧ ∃ v', BV B b (.pointer (some ⟨b, 0, none⟩)) v' (bs ++ Lib.strCells s) w' ∧ Apart1 b v v' w w' ∧ Below B w w' := by
  obtain ⟨i0, hi, hz0, hz1, hz2⟩ := info_parts wInfoByte
  have hcc : Calls Tryd.prog 54 #[.pointer (some ⟨b, 0, none⟩)] w fun e w' => e = .returned (.tuple #[]) ∧ w'.heap[b]? = some (.cells #[.pointer (some ⟨b, 0, none⟩), v] 40 (0, 0)) ∧ w'.ownsRow B 5 1 v bs.length bs ∧ Below B w w' ∧ w'.heap.size = w.heap.size ∧ (∀ k, k ≠ b → w'.heap[k]? = w.heap[k]?) := by
    rcases hp with rfl | rfl
    · refine (copyCheck_fresh b w h.at.cell0 h.at.shape h.at.frozen0).mono ?_
      rintro e w' ⟨rfl, rfl⟩
      refine ⟨rfl, ?_, ?_, (Below.refl B w).setCell (p := ⟨b, 0, none⟩) h.1 _, by simp, fun k hk => Below.heap_setCell _ _ _ _ (fun e => hk e)⟩
      · simpa using blk_set h.2.1 0 (.pointer (some ⟨b, 0, none⟩))
      · exact own_setCell h.2.2 (p := ⟨b, 0, none⟩) (fun e => h.ne e.symm) _
    · refine (copyCheck_used b w h.at.cell0).mono ?_
      rintro e w' ⟨rfl, rfl⟩
      exact ⟨rfl, h.2.1, h.2.2, Below.refl B _, rfl, fun k _ => rfl⟩
  go_enter Tryd.func27, Tryd.ntmps27
  go_wp2_with (go_at_call 54; refine hcc.mono ?_)
  rintro e w1 ⟨rfl, hbk, hown, hb1, hsz1, hold⟩
  clear hcc
  have c0 : w1.cell? ⟨b, 0, none⟩ = some (.pointer (some ⟨b, 0, none⟩)) := by rw [Lib.cell_of_heap hbk]; rfl
  have c1 : w1.cell? ⟨b, 1, none⟩ = some v := by rw [Lib.cell_of_heap hbk]; rfl
  go_wp2_with (at_builtin; refine wpList_append_string_at _ rfl _ _ 37 9 rfl B 5 i0 Tryd.underlying37 Tryd.underlying9 hi hz0 hz1 hz2 _ _ _ rfl hown s rfl ?c4 ?c5 ?_)
  case c4 => omega
  case c5 => omega
  intro v' w2 hown' hgrow hat
  have hlt : b < w1.heap.size := by rw [hsz1]; exact h.lt
  have hb2 : w2.heap[b]? = some (.cells #[.pointer (some ⟨b, 0, none⟩), v] 40 (0, 0)) := by
    rw [hgrow.block b hlt (fun e => h.ne e.symm)]
    exact hbk
  have d0 : w2.cell? ⟨b, 0, none⟩ = some (.pointer (some ⟨b, 0, none⟩)) := by rw [Lib.cell_of_heap hb2]; rfl
  have d1 : w2.cell? ⟨b, 1, none⟩ = some v := by rw [Lib.cell_of_heap hb2]; rfl
  have f1 : w2.frozen? ⟨b, 1, none⟩ = false := Lib.frozen_of_heap hb2 1
  have hne' : v'.ownBlock ≠ some b := Lib.ownBlock_ne hown' hb2 (by decide)
  have HAT := Aside0.mk hat
  have HOWN := Aside0.mk hown'
  have HNE := Aside0.mk hne'
  obtain ⟨ao, n', cap, rfl⟩ : ∃ ao n' cap, v' = .slice ao n' cap := by
    rcases hown'.2 with ⟨hv, _⟩ | ⟨g, cap, cur, hv, _⟩
    · exact ⟨_, _, _, hv⟩
    · exact ⟨_, _, _, hv⟩
  clear hat hown' hne'
  go_wp2
  go_ret2
  refine ⟨rfl, .slice ao n' cap, ⟨h.1, ?_, ?_⟩, ⟨?_, ?_, ?_⟩, ?_⟩
  · simpa using blk_set hb2 1 (.slice ao n' cap)
  · rw [List.length_append, Lib.strCells_length]
    exact own_setCell HOWN.out (p := ⟨b, 1, none⟩) (fun e => HNE.out e.symm) _
  · have := hgrow.size
    simp; omega
  · intro k hk hkb hkv
    rw [Below.heap_setCell _ _ _ _ (fun e => hkb e), hgrow.block k (by omega) hkv, hold k hkb]
  · rcases HAT.out with h1 | h1
    · exact .inl h1
    · exact .inr ⟨_, h1, by omega⟩
  · exact (hb1.grown hgrow (by omega) (fun k hk => (hown.lt k hk).1)).setCell (p := ⟨b, 1, none⟩) h.1 _
end
section
open Go.RowKit Go.Proofs.YtmndicibakaceaaDoorW.PrintWords Go.Proofs.YtmndicibakaceaaDoorW.PrintLast Go.Proofs.YtmndicibakaceaaDoorW.PrintMore
theorem heap_freeze (w : World) (g n k : Nat) (h : k ≠ g) : (w.freeze ⟨g, 0, none⟩ n).heap[k]? = w.heap[k]? := by
  unfold World.freeze
  split
  · rfl
  · simp [Array.getElem?_modify, Ne.symm h]
set_option maxHeartbeats 1000000 in
set_option maxRecDepth 100000 in
/-- String, of a builder that holds at least one byte: only its own row turns. -/
theorem string_V (B b : Nat) (p v : Value) (l : List UInt8) (w : World) (h : BV B b p v (Lib.byteCells l) w) (h0 : l ≠ []) :
    Calls Tryd.prog 29 #[.pointer (some ⟨b, 0, none⟩)] w fun e w' => e = .returned (.string ⟨l.toArray⟩) ∧ w'.heap.size = w.heap.size ∧ (∀ k, some k ≠ v.ownBlock → w'.heap[k]? = w.heap[k]?) ∧ Below B w w' := by
  obtain ⟨hB, hbk, hown⟩ := h
  have hl0 : l.length ≠ 0 := by simpa using h0
  rw [Lib.byteCells_length] at hown
  obtain ⟨g, cap, cur, rfl, hbg, hg, hnc, hcm, hcs, htake⟩ : ∃ g cap cur, v = .slice (some ⟨g, 0, none⟩) l.length cap ∧ B ≤ g ∧ w.heap[g]? = some (.cells cur 5 (0, 0)) ∧ l.length ≤ cap ∧ cap ≤ maxLen ∧ cur.size = cap * 1 ∧ cur.toList.take (l.length * 1) = Lib.byteCells l := by
    rcases hown.2 with ⟨_, hz⟩ | ⟨g, cap, cur, hv, r⟩
    · exact absurd hz hl0
    · exact ⟨g, cap, cur, hv, r⟩
  have c1 : w.drew.cell? ⟨b, 1, none⟩ = some (.slice (some ⟨g, 0, none⟩) l.length cap) := by
    have h1 : w.drew.heap[b]? = some (.cells #[p, .slice (some ⟨g, 0, none⟩) l.length cap] 40 (0, 0)) := hbk
    rw [Lib.cell_of_heap h1]; rfl
  have hSD : (Builtin.unsafeSliceData_ #[37] 71 #[.slice (some ⟨g, 0, none⟩) l.length cap]).run Tryd.prog w.drew = .ok (.pointer (some ⟨g, 0, none⟩)) w.drew :=
    Lib.run_unsafeSliceData_row _ _ _ _ _ _ (by omega)
  have hUS : (Builtin.unsafeString_ #[71, 3] 9 #[.pointer (some ⟨g, 0, none⟩), .int .i64 l.length]).run Tryd.prog w.drew = .ok (.string ⟨l.toArray⟩) (w.drew.freeze ⟨g, 0, none⟩ l.length) := by
    refine Lib.run_unsafeString_row w.drew 71 3 9 5 Tryd.underlying71 (by kernel_rfl) g cur.size (by have hg' : w.drew.heap[g]? = some (.cells cur 5 (0, 0)) := hg; simp [World.shape?, hg']) l h0 (by omega) (by unfold maxLen at hcm; omega) ?_
    intro j x hx
    have := hown.cells (g := g) rfl j (.int .u8 x.toNat) (by simp [Lib.byteCells, hx])
    exact this
  go_enter Tryd.func29, Tryd.ntmps29
  go_wp2
  go_region
  all_goals
    go_wp2
    go_ret
    refine ⟨rfl, ?_, fun k hk => ?_, Lib.below_freeze (Below.drew (Below.refl B w)) (p := ⟨g, 0, none⟩) hbg _⟩
    · unfold World.freeze
      split
      · rfl
      · simp
    · exact heap_freeze w.drew g _ k (fun e => hk (by rw [e]; rfl))
/-! ### two builders of the call's own, and what lay before them -/
def Two (B : Nat) (W2 : World) (x y : List UInt8) (w : World) : Prop :=
  ∃ p1 v1 p2 v2, (p1 = .pointer none ∨ p1 = .pointer (some ⟨B, 0, none⟩)) ∧ (p2 = .pointer none ∨ p2 = .pointer (some ⟨B + 1, 0, none⟩)) ∧
    BV B B p1 v1 (Lib.byteCells x) w ∧ BV B (B + 1) p2 v2 (Lib.byteCells y) w ∧ (∀ q, v1.ownBlock = some q → v2.ownBlock ≠ some q) ∧ Below B W2 w
theorem ownBlock_lt {w : World} {B : Nat} {e : TypeId} {n : Nat} {v : Value} {xs : List Value} (h : w.ownsRow B e 1 v n xs) : ∀ q, v.ownBlock = some q → q < w.heap.size ∧ B ≤ q := by
  intro q hq
  rcases h.2 with ⟨rfl, _⟩ | ⟨g, cap, cur, rfl, hb, hg, _⟩
  · simp [Value.ownBlock] at hq
  · have : g = q := by simpa [Value.ownBlock] using hq
    subst this
    exact ⟨blk_lt hg, hb⟩
theorem ownsRow_same {w w' : World} {B : Nat} {e : TypeId} {n : Nat} {v : Value} {xs : List Value} (h : w.ownsRow B e 1 v n xs) (hk : ∀ q, v.ownBlock = some q → w'.heap[q]? = w.heap[q]?) : w'.ownsRow B e 1 v n xs := by
  refine ⟨h.1, ?_⟩
  rcases h.2 with h2 | ⟨g, cap, cur, rfl, hb, hg, r⟩
  · exact .inl h2
  · exact .inr ⟨g, cap, cur, rfl, hb, (hk g rfl).trans hg, r⟩
theorem BV.same {B b : Nat} {p v : Value} {bs : List Value} {w w' : World} (h : BV B b p v bs w) (hb : w'.heap[b]? = w.heap[b]?) (hk : ∀ q, v.ownBlock = some q → w'.heap[q]? = w.heap[q]?) : BV B b p v bs w' :=
  ⟨h.1, hb.trans h.2.1, ownsRow_same h.2.2 hk⟩
theorem Two.lt {B : Nat} {W2 : World} {x y : List UInt8} {w : World} (h : Two B W2 x y w) : B + 1 < w.heap.size := by
  obtain ⟨_, _, _, _, _, _, _, h2, _⟩ := h
  exact h2.lt
theorem Two.kept {B : Nat} {W2 : World} {x y : List UInt8} {w : World} (h : Two B W2 x y w) : Below B W2 w := by
  obtain ⟨_, _, _, _, _, _, _, _, _, hb⟩ := h
  exact hb
theorem Two.below {B : Nat} {W2 : World} {x y : List UInt8} {w w' : World} (h : Two B W2 x y w) (hb : Below w.heap.size w w') : Two B W2 x y w' := by
  have hlt := h.lt
  obtain ⟨p1, v1, p2, v2, hp1, hp2, h1, h2, hs, h0⟩ := h
  exact ⟨p1, v1, p2, v2, hp1, hp2, h1.same (hb.block _ h1.lt) (fun q hq => hb.block _ (ownBlock_lt h1.2.2 q hq).1), h2.same (hb.block _ h2.lt) (fun q hq => hb.block _ (ownBlock_lt h2.2.2 q hq).1), hs, h0.trans (hb.mono (by omega))⟩
theorem Two.start {W2 : World} : Two W2.heap.size W2 [] [] ((W2.alloc (.cells #[.pointer none, .slice none 0 0] 40)).alloc (.cells #[.pointer none, .slice none 0 0] 40)) := by
  refine ⟨.pointer none, .slice none 0 0, .pointer none, .slice none 0 0, .inl rfl, .inl rfl, ⟨Nat.le_refl _, ?_, own_nil _ _ _ _⟩, ⟨Nat.le_succ _, ?_, own_nil _ _ _ _⟩, fun q hq => by simp [Value.ownBlock] at hq, ?_⟩
  · have h := Lib.alloc_old (W2.alloc (.cells #[.pointer none, .slice none 0 0] 40)) (.cells #[.pointer none, .slice none 0 0] 40) W2.heap.size (by simp)
    exact h.trans (blk_new _ _)
  · have h := blk_new (W2.alloc (.cells #[.pointer none, .slice none 0 0] 40)) (.cells #[.pointer none, .slice none 0 0] 40)
    rwa [World.size_alloc] at h
  · exact ((Below.refl _ _).alloc (Nat.le_refl _) _).alloc (by simp) _
theorem cells_app (x : List UInt8) (s : ByteArray) : Lib.byteCells x ++ Lib.strCells s = Lib.byteCells (x ++ s.data.toList) := by
  simp [Lib.byteCells, Lib.strCells]
theorem Two.write1 {B : Nat} {W2 : World} {x y : List UInt8} {W0 w : World} (hT : Two B W2 x y W0) (hB0 : Below W0.heap.size W0 w) (s : ByteArray) (hl : x.length + s.size ≤ 140737488355328) :
    Calls Tryd.prog 27 #[.pointer (some ⟨B, 0, none⟩), .string s] w fun e w' => e = .returned (.tuple #[.int .i64 s.size, .nilIface]) ∧ Two B W2 (x ++ s.data.toList) y w' ∧ (∀ k, W0.heap.size ≤ k → k < w.heap.size → w'.heap[k]? = w.heap[k]?) ∧ w.heap.size ≤ w'.heap.size := by
  have hlt := (hT.below hB0).lt
  have hlt0 := hT.lt
  obtain ⟨p1, v1, p2, v2, hp1, hp2, h1', h2', hs, h0'⟩ := hT
  have hq1 := ownBlock_lt h1'.2.2
  have h1 : BV B B p1 v1 (Lib.byteCells x) w := h1'.same (hB0.block _ h1'.lt) (fun q hq => hB0.block _ (ownBlock_lt h1'.2.2 q hq).1)
  have h2 : BV B (B + 1) p2 v2 (Lib.byteCells y) w := h2'.same (hB0.block _ h2'.lt) (fun q hq => hB0.block _ (ownBlock_lt h2'.2.2 q hq).1)
  have h0 : Below B W2 w := h0'.trans (hB0.mono (by omega))
  refine (writeString_V B B p1 v1 (Lib.byteCells x) s w hp1 h1 (by rw [Lib.byteCells_length]; exact hl) (by omega)).mono ?_
  rintro e w' ⟨rfl, v1', hV, ⟨ha1, ha2, ha3⟩, hb⟩
  have hne : ∀ q, v2.ownBlock = some q → w'.heap[q]? = w.heap[q]? := fun q hq => by
    obtain ⟨q1, q2⟩ := ownBlock_lt h2.2.2 q hq
    refine ha2 q q1 ?_ (fun e => hs q e.symm hq)
    rintro rfl
    exact Lib.ownBlock_ne h2.2.2 h1.2.1 (by decide) hq
  rw [cells_app] at hV
  refine ⟨rfl, ⟨_, v1', p2, v2, .inr rfl, hp2, hV, h2.same (ha2 _ h2.lt (by omega) (fun e => Lib.ownBlock_ne h1.2.2 h2.2.1 (by decide) e.symm)) hne, ?_, h0.trans hb⟩, ?_, ha1⟩
  · intro q hq hq2
    obtain ⟨q1, q2⟩ := ownBlock_lt h2.2.2 q hq2
    rcases ha3 with ha3 | ⟨z, hz, hz2⟩
    · exact hs q (ha3 ▸ hq) hq2
    · rw [hq] at hz; injection hz with hz; omega
  · intro k hk1 hk2
    exact ha2 k hk2 (by omega) (fun e => by have := (hq1 k e.symm).1; omega)
theorem Two.write2 {B : Nat} {W2 : World} {x y : List UInt8} {w : World} (h : Two B W2 x y w) (s : ByteArray) (hl : y.length + s.size ≤ 140737488355328) :
    Calls Tryd.prog 27 #[.pointer (some ⟨B + 1, 0, none⟩), .string s] w fun e w' => e = .returned (.tuple #[.int .i64 s.size, .nilIface]) ∧ Two B W2 x (y ++ s.data.toList) w' := by
  have hlt := h.lt
  obtain ⟨p1, v1, p2, v2, hp1, hp2, h1, h2, hs, h0⟩ := h
  refine (writeString_V B (B + 1) p2 v2 (Lib.byteCells y) s w hp2 h2 (by rw [Lib.byteCells_length]; exact hl) (by omega)).mono ?_
  rintro e w' ⟨rfl, v2', hV, ⟨ha1, ha2, ha3⟩, hb⟩
  have hne : ∀ q, v1.ownBlock = some q → w'.heap[q]? = w.heap[q]? := fun q hq => by
    obtain ⟨q1, q2⟩ := ownBlock_lt h1.2.2 q hq
    refine ha2 q q1 ?_ (fun e => hs q hq e.symm)
    rintro rfl
    exact Lib.ownBlock_ne h1.2.2 h2.2.1 (by decide) hq
  rw [cells_app] at hV
  refine ⟨rfl, p1, v1, _, v2', hp1, .inr rfl, h1.same (ha2 _ h1.lt (by omega) (fun e => Lib.ownBlock_ne h2.2.2 h1.2.1 (by decide) e.symm)) hne, hV, ?_, h0.trans hb⟩
  intro q hq hq2
  obtain ⟨q1, q2⟩ := ownBlock_lt h1.2.2 q hq
  rcases ha3 with ha3 | ⟨z, hz, hz2⟩
  · exact hs q hq (ha3 ▸ hq2)
  · rw [hq2] at hz; injection hz with hz; omega
theorem Two.string1 {B : Nat} {W2 : World} {x y : List UInt8} {w : World} (h : Two B W2 x y w) (hx : x ≠ []) :
    Calls Tryd.prog 29 #[.pointer (some ⟨B, 0, none⟩)] w fun e w' => e = .returned (.string (ofL x)) ∧ ∃ p2 v2, BV B (B + 1) p2 v2 (Lib.byteCells y) w' ∧ Below B W2 w' := by
  obtain ⟨p1, v1, p2, v2, hp1, hp2, h1, h2, hs, h0⟩ := h
  refine (string_V B B p1 v1 x w h1 hx).mono ?_
  rintro e w' ⟨rfl, hsz, hk, hb⟩
  exact ⟨rfl, p2, v2, h2.same (hk _ (fun e => Lib.ownBlock_ne h1.2.2 h2.2.1 (by decide) e.symm)) (fun q hq => hk q (fun e => hs q e.symm hq)), h0.trans hb⟩
end
section
open Go.RowKit Go.Proofs.YtmndicibakaceaaDoorW.PrintWords Go.Proofs.YtmndicibakaceaaDoorW.PrintLast Go.Proofs.YtmndicibakaceaaDoorW.PrintMore
def IsRow8 (w : World) (a : Option Addr) (len cap : Nat) (zs : List Int) : Prop :=
  (a = none ∧ len = 0 ∧ cap = 0 ∧ zs = []) ∨ ∃ x, a = some x ∧ len ≤ cap ∧ cap ≤ maxLen ∧ zs.length = cap ∧ (∀ i, i < zs.length → w.cell? (x.add i) = some (.int .u8 (zs.getD i 0))) ∧ ∀ n ∈ zs, (Lit.int .u8 n).wf = true
theorem written_some (t : S36) (ht : t.f1.size ≤ 1000000000) : modcertlaw03_written.f t.f0 t.f1 t.f2 = some (ofL (wrL t)) := by
  unfold modcertlaw03_written.f wrL
  by_cases h : t.f0 = 4
  · rw [if_pos h, if_pos h, Quote_some _ ht]; rfl
  · rw [if_neg h, if_neg h, ofL_of]
theorem sumW_mem : ∀ (l : List S36) (t : S36), t ∈ l → (wrL t).length + 20 ≤ sumW l
  | u :: l, t, h => by
    rcases List.mem_cons.1 h with rfl | h
    · simp only [sumW]; omega
    · have := sumW_mem l t h; simp only [sumW]; omega
theorem sumW_take : ∀ (l : List S36) (i : Nat), sumW (l.take i) ≤ sumW l
  | [], i => by simp
  | u :: l, 0 => by simp [sumW]
  | u :: l, i + 1 => by have := sumW_take l i; simp only [List.take_succ_cons, sumW]; omega
theorem wrL_size (t : S36) : t.f1.size ≤ (wrL t).length := by
  have h : t.f1.data.toList.length = t.f1.size := rfl
  unfold wrL
  split
  · rw [quoteL_len]; have := (bodyL_len t.f1.data.toList).1; omega
  · omega
/-- the kinds as bytes. -/
def kinds8 (ks : List Int) : List UInt8 := ks.map fun n => UInt8.ofNat n.toNat
theorem gap_at {ks : List Int} {i : Nat} (h : i < ks.length) (hw : ∀ n ∈ ks, (Lit.int .u8 n).wf = true) : gapNo (kinds8 ks) i = (rd ks (i : Int)).toNat % 5 ∧ 0 ≤ rd ks (i : Int) ∧ rd ks (i : Int) ≤ 255 := by
  have hrd : rd ks (i : Int) = ks[i] := by simp [rd, h]
  have hb := hw _ (List.getElem_mem h)
  have hr : 0 ≤ ks[i] ∧ ks[i] ≤ 255 := by
    simp [Lit.wf, IntKind.min, IntKind.max, IntKind.signed, IntKind.bits] at hb; omega
  rw [hrd]
  refine ⟨?_, hr⟩
  unfold gapNo kinds8
  rw [List.getElem?_map, List.getElem?_eq_getElem h]
  simp only [Option.map_some]
  rw [UInt8.toNat_ofNat', show (ks[i]).toNat % 2 ^ 8 = (ks[i]).toNat from Nat.mod_eq_of_lt (by omega)]
theorem gap_out {ks : List Int} {i : Nat} (h : ¬ i < ks.length) : gapNo (kinds8 ks) i = 0 := by
  unfold gapNo kinds8
  rw [List.getElem?_map, List.getElem?_eq_none (by omega)]; rfl
theorem plain_ne {l : List S36} (h : l ≠ []) : plainL l ≠ [] := by
  obtain ⟨t, m, rfl⟩ := List.exists_cons_of_ne_nil h
  simp [plainL]
theorem other_ne (ks : List UInt8) {l : List S36} (h : l ≠ []) : otherL ks 0 l ≠ [] := by
  obtain ⟨t, m, rfl⟩ := List.exists_cons_of_ne_nil h
  have := (gap_is _ (gapNo_lt ks 0)).2.1
  simp [otherL, this]
set_option maxRecDepth 100000 in
set_option maxHeartbeats 16000000 in
theorem returns_small (a0 : ByteArray) (a1 : Option Addr) (cap1 : Nat) (ks : List Int) (l : List S36) (at_ : Int) (w : World) (hG : Gd w) (hs : a0.size ≤ 1000) (hk : ks.length ≤ 1000) (hr : ReadsInt w .u8 a1 ks.length ks) (hc : ks.length ≤ cap1) (hw : ∀ n ∈ ks, (Lit.int .u8 n).wf = true) (hl : lexer_Lex.f a0 = some (l, at_, 0)) (hsum : sumW l ≤ 24020) (hlen : l.length ≤ 1001) (hne : l ≠ [])
    (l1 l2 : List S36) (hl1 : lexer_Lex.f (ofL (plainL l)) = some (l1, 0, 0)) (hl2 : lexer_Lex.f (ofL (otherL (kinds8 ks) 0 l)) = some (l2, 0, 0)) (k : Nat) (hS1 : modcertref03_Same.f k l1 l false = some true) (hS2 : modcertref03_Same.f k l2 l false = some true) :
    Calls Tryd.prog 7 #[.string a0, .slice a1 ks.length cap1] w fun e w' => e = .returned (.bool true) ∧ Below w.heap.size w w' := by
  have g1 : decide (1000 < a0.size) = false := decide_eq_false (by omega)
  have g2 : decide (1000 < (a0.size : Int)) = false := decide_eq_false (by omega)
  have g3 : decide (1000 < ks.length) = false := decide_eq_false (by omega)
  have g4 : decide (1000 < (ks.length : Int)) = false := decide_eq_false (by omega)
  have HL1 := Aside0.mk hl1
  have HL2 := Aside0.mk hl2
  clear hl1 hl2
  go_enter Tryd.func7, Tryd.ntmps7
  go_wp2_with (first
    | (go_at_call 11; (with_reducible refine (modcertlaw03_awake.calls true _ rfl hG).mono ?_); rintro e w1 ⟨rfl, hb1⟩; have hG1 := Gd.below hG hb1; have hr1 := ReadsInt.below hr hb1; have HB1 := Aside0.mk hb1; clear hb1)
    | (go_at_call 12; (with_reducible refine (lexer_Lex.calls _ _ _ _ _ hl hG1).mono ?_); rintro e W2 ⟨v0, rfl, hR, hb2⟩; obtain ⟨A, c, rfl⟩ : ∃ A c, v0 = .slice A l.length c := Kd.R_slice hR; have hG2 := Gd.below hG1 hb2; have hr2 := ReadsInt.below hr1 hb2; have HB2 := Aside0.mk (HB1.out.trans (hb2.mono HB1.out.size)); have HR := Aside0.mk hR; clear hR hb2))
  have HT0 := Aside0.mk (Two.start (W2 := W2))
  go_loopw [10, 11, 12, 13, 42] (fun _ _ _ _ v42 wr => ∃ i : Nat, i ≤ l.length ∧ v42 = .int .i64 i ∧ Aside0 (Two W2.heap.size W2 (plainL (l.take i)) (otherL (kinds8 ks) 0 (l.take i)) wr)) (fun _ _ _ _ v42 _ => l.length - (intOf v42).toNat)
  case atStart => exact ⟨0, Nat.zero_le _, rfl, ⟨HT0.out⟩⟩
  case round =>
    clear HT0
    obtain ⟨i, hi, rfl, HT⟩ := hrel
    by_cases hlt : i < l.length
    · have HTB := HT.out.kept
      have hC := (Kd.R_reads' (Kd.R_below HR.out HTB)).2.2
      have hrr := ReadsInt.below hr2 HTB
      obtain ⟨ad, hA, c0, c1, c2⟩ := at_T36 hC (i : Int) (by omega) (by omega)
      subst hA
      simp only [Int.toNat_natCast] at c0 c1 c2
      have ht : rd_T36 l (i : Int) = l[i] := by simp [rd_T36, hlt]
      rw [ht] at c0 c1 c2
      have hmem : l[i] ∈ l := List.getElem_mem hlt
      have hsw := sumW_mem l l[i] hmem
      have htz := wrL_size l[i]
      have htk : l.take (i + 1) = l.take i ++ [l[i]] := by rw [List.take_add_one, List.getElem?_eq_getElem hlt]; rfl
      have hpl := plain_snoc l[i] (l.take i)
      have hol := other_snoc (kinds8 ks) l[i] 0 (l.take i)
      rw [← htk] at hpl hol
      have hti : (l.take i).length = i := by rw [List.length_take]; omega
      rw [hti, Nat.zero_add] at hol
      clear htk hti
      have hgn0 : i < ks.length → gapNo (kinds8 ks) i = (rd ks (i : Int)).toNat % 5 ∧ 0 ≤ rd ks (i : Int) ∧ rd ks (i : Int) ≤ 255 := fun h => gap_at h hw
      generalize l[i] = t at *
      have hwr := written_some t (by omega)
      have hXs : (ofL (wrL t)).size = (wrL t).length := ofL_size _
      have HX := Aside0.mk (show (ofL (wrL t)).data.toList = wrL t from ofL_list _)
      have HPL := Aside0.mk hpl
      have HOL := Aside0.mk hol
      clear hpl hol
      generalize ofL (wrL t) = X at *
      have hX1 : X.size ≤ 24020 := by omega
      have q1 : decide (X.size + 1 ≤ 9223372036854775807) = true := decide_eq_true (by omega)
      have q2 : (9223372036854775807 < X.size + 1) = False := eq_false (by omega)
      clear hXs
      by_cases hik : i < ks.length
      · have g5 : decide (i < ks.length) = true := decide_eq_true hik
        have g6 : decide ((i : Int) < (ks.length : Int)) = true := decide_eq_true (by omega)
        obtain ⟨ad1, hA1, e0⟩ := ReadsInt.at_ hrr (i : Int) (by omega) (by omega)
        subst hA1
        rw [Int.toNat_natCast] at e0
        have e1 := pw_cell_below (below_alloc (Below.refl wr.heap.size wr) (.cells #[.int .i64 t.f0, .string t.f1, .int .i64 t.f2] 36)) e0
        obtain ⟨hg0, hc0, hc1⟩ := hgn0 hik
        generalize rd ks (i : Int) = kc at *
        have hmod : Int.tmod kc 5 = ((kc.toNat % 5 : Nat) : Int) := by rw [Int.tmod_eq_emod_of_nonneg hc0]; omega
        have h5 : kc.toNat % 5 = 0 ∨ kc.toNat % 5 = 1 ∨ kc.toNat % 5 = 2 ∨ kc.toNat % 5 = 3 ∨ kc.toNat % 5 = 4 := by omega
        rcases h5 with h5 | h5 | h5 | h5 | h5
        · have hgn := Aside0.mk (hg0.trans h5)
          rw [h5] at hmod
          replace hmod : Int.tmod kc 5 = 0 := hmod
          clear h5 hg0
          have q3 : decide (1 + X.size ≤ 9223372036854775807) = true := decide_eq_true (by omega)
          have q4 : (9223372036854775807 < 1 + X.size) = False := eq_false (by omega)
          go_wp2_with fail
          refine (modcertlaw03_written.calls _ _ _ _ _ hwr).mono ?_
          rintro e W3 ⟨rfl, hb3⟩
          have hb3' := (below_alloc (below_alloc (Below.refl wr.heap.size wr) (.cells #[.int .i64 t.f0, .string t.f1, .int .i64 t.f2] 36)) (.cells #[.string ⟨#[32]⟩, .string ⟨#[9]⟩, .string ⟨#[13, 10]⟩, .string ⟨#[32, 47, 47, 32, 34, 32, 47, 47, 32, 120, 10]⟩, .string ⟨#[32, 47, 47, 10, 10]⟩] 9)).trans (hb3.mono (by simp; omega))
          have b3 := hb3.block wr.heap.size (by simp; omega)
          rw [Lib.alloc_old _ _ wr.heap.size (by simp), blk_new] at b3
          have HB3 := Aside0.mk hb3'
          have hz3 := hb3.size
          simp only [World.size_alloc] at hz3
          clear hb3 hb3'
          go_wp2_with fail
          refine (Two.write1 HT.out HB3.out _ ?_).mono ?_
          · have := plain_len (l.take i); have := sumW_take l i; rw [ByteArray.size_append]; show _ + (X.size + 1) ≤ _; omega
          rintro e W4 ⟨rfl, hT4, hk4, hz4⟩
          have b4 := (hk4 wr.heap.size (Nat.le_refl _) (by omega)).trans b3
          have HT4 := Aside0.mk hT4
          have d0 := blk_cell b4 0
          have d1 := blk_cell b4 1
          have d2 := blk_cell b4 2
          simp only [List.getElem?_toArray, List.getElem?_cons_zero, List.getElem?_cons_succ] at d0 d1 d2
          clear hT4 hk4 b3 b4
          go_wp2_with fail
          refine (modcertlaw03_written.calls _ _ _ _ _ hwr).mono ?_
          rintro e W5 ⟨rfl, hb5⟩
          have HT5 := Aside0.mk (HT4.out.below hb5)
          clear hb5
          go_wp2_with fail
          refine (Two.write2 HT5.out _ ?_).mono ?_
          · have := other_len (kinds8 ks) (l.take i) 0; have := sumW_take l i; rw [ByteArray.size_append]; show _ + (1 + X.size) ≤ _; omega
          rintro e W6 ⟨rfl, hT6⟩
          have HT6 := Aside0.mk hT6
          clear hT6
          go_wp2
          go_roundw
          case rel => exact ⟨i + 1, by omega, by go_num, ⟨by rw [HPL.out, HOL.out, hgn.out, ← HX.out]; simpa [ByteArray.data_append, gapL] using HT6.out⟩⟩
          case measure => simp [intOf]; omega
        · have hgn := Aside0.mk (hg0.trans h5)
          rw [h5] at hmod
          replace hmod : Int.tmod kc 5 = 1 := hmod
          clear h5 hg0
          have q3 : decide (1 + X.size ≤ 9223372036854775807) = true := decide_eq_true (by omega)
          have q4 : (9223372036854775807 < 1 + X.size) = False := eq_false (by omega)
          go_wp2_with fail
          refine (modcertlaw03_written.calls _ _ _ _ _ hwr).mono ?_
          rintro e W3 ⟨rfl, hb3⟩
          have hb3' := (below_alloc (below_alloc (Below.refl wr.heap.size wr) (.cells #[.int .i64 t.f0, .string t.f1, .int .i64 t.f2] 36)) (.cells #[.string ⟨#[32]⟩, .string ⟨#[9]⟩, .string ⟨#[13, 10]⟩, .string ⟨#[32, 47, 47, 32, 34, 32, 47, 47, 32, 120, 10]⟩, .string ⟨#[32, 47, 47, 10, 10]⟩] 9)).trans (hb3.mono (by simp; omega))
          have b3 := hb3.block wr.heap.size (by simp; omega)
          rw [Lib.alloc_old _ _ wr.heap.size (by simp), blk_new] at b3
          have HB3 := Aside0.mk hb3'
          have hz3 := hb3.size
          simp only [World.size_alloc] at hz3
          clear hb3 hb3'
          go_wp2_with fail
          refine (Two.write1 HT.out HB3.out _ ?_).mono ?_
          · have := plain_len (l.take i); have := sumW_take l i; rw [ByteArray.size_append]; show _ + (X.size + 1) ≤ _; omega
          rintro e W4 ⟨rfl, hT4, hk4, hz4⟩
          have b4 := (hk4 wr.heap.size (Nat.le_refl _) (by omega)).trans b3
          have HT4 := Aside0.mk hT4
          have d0 := blk_cell b4 0
          have d1 := blk_cell b4 1
          have d2 := blk_cell b4 2
          simp only [List.getElem?_toArray, List.getElem?_cons_zero, List.getElem?_cons_succ] at d0 d1 d2
          clear hT4 hk4 b3 b4
          go_wp2_with fail
          refine (modcertlaw03_written.calls _ _ _ _ _ hwr).mono ?_
          rintro e W5 ⟨rfl, hb5⟩
          have HT5 := Aside0.mk (HT4.out.below hb5)
          clear hb5
          go_wp2_with fail
          refine (Two.write2 HT5.out _ ?_).mono ?_
          · have := other_len (kinds8 ks) (l.take i) 0; have := sumW_take l i; rw [ByteArray.size_append]; show _ + (1 + X.size) ≤ _; omega
          rintro e W6 ⟨rfl, hT6⟩
          have HT6 := Aside0.mk hT6
          clear hT6
          go_wp2
          go_roundw
          case rel => exact ⟨i + 1, by omega, by go_num, ⟨by rw [HPL.out, HOL.out, hgn.out, ← HX.out]; simpa [ByteArray.data_append, gapL] using HT6.out⟩⟩
          case measure => simp [intOf]; omega
        · have hgn := Aside0.mk (hg0.trans h5)
          rw [h5] at hmod
          replace hmod : Int.tmod kc 5 = 2 := hmod
          clear h5 hg0
          have q3 : decide (2 + X.size ≤ 9223372036854775807) = true := decide_eq_true (by omega)
          have q4 : (9223372036854775807 < 2 + X.size) = False := eq_false (by omega)
          go_wp2_with fail
          refine (modcertlaw03_written.calls _ _ _ _ _ hwr).mono ?_
          rintro e W3 ⟨rfl, hb3⟩
          have hb3' := (below_alloc (below_alloc (Below.refl wr.heap.size wr) (.cells #[.int .i64 t.f0, .string t.f1, .int .i64 t.f2] 36)) (.cells #[.string ⟨#[32]⟩, .string ⟨#[9]⟩, .string ⟨#[13, 10]⟩, .string ⟨#[32, 47, 47, 32, 34, 32, 47, 47, 32, 120, 10]⟩, .string ⟨#[32, 47, 47, 10, 10]⟩] 9)).trans (hb3.mono (by simp; omega))
          have b3 := hb3.block wr.heap.size (by simp; omega)
          rw [Lib.alloc_old _ _ wr.heap.size (by simp), blk_new] at b3
          have HB3 := Aside0.mk hb3'
          have hz3 := hb3.size
          simp only [World.size_alloc] at hz3
          clear hb3 hb3'
          go_wp2_with fail
          refine (Two.write1 HT.out HB3.out _ ?_).mono ?_
          · have := plain_len (l.take i); have := sumW_take l i; rw [ByteArray.size_append]; show _ + (X.size + 1) ≤ _; omega
          rintro e W4 ⟨rfl, hT4, hk4, hz4⟩
          have b4 := (hk4 wr.heap.size (Nat.le_refl _) (by omega)).trans b3
          have HT4 := Aside0.mk hT4
          have d0 := blk_cell b4 0
          have d1 := blk_cell b4 1
          have d2 := blk_cell b4 2
          simp only [List.getElem?_toArray, List.getElem?_cons_zero, List.getElem?_cons_succ] at d0 d1 d2
          clear hT4 hk4 b3 b4
          go_wp2_with fail
          refine (modcertlaw03_written.calls _ _ _ _ _ hwr).mono ?_
          rintro e W5 ⟨rfl, hb5⟩
          have HT5 := Aside0.mk (HT4.out.below hb5)
          clear hb5
          go_wp2_with fail
          refine (Two.write2 HT5.out _ ?_).mono ?_
          · have := other_len (kinds8 ks) (l.take i) 0; have := sumW_take l i; rw [ByteArray.size_append]; show _ + (2 + X.size) ≤ _; omega
          rintro e W6 ⟨rfl, hT6⟩
          have HT6 := Aside0.mk hT6
          clear hT6
          go_wp2
          go_roundw
          case rel => exact ⟨i + 1, by omega, by go_num, ⟨by rw [HPL.out, HOL.out, hgn.out, ← HX.out]; simpa [ByteArray.data_append, gapL] using HT6.out⟩⟩
          case measure => simp [intOf]; omega
        · have hgn := Aside0.mk (hg0.trans h5)
          rw [h5] at hmod
          replace hmod : Int.tmod kc 5 = 3 := hmod
          clear h5 hg0
          have q3 : decide (11 + X.size ≤ 9223372036854775807) = true := decide_eq_true (by omega)
          have q4 : (9223372036854775807 < 11 + X.size) = False := eq_false (by omega)
          go_wp2_with fail
          refine (modcertlaw03_written.calls _ _ _ _ _ hwr).mono ?_
          rintro e W3 ⟨rfl, hb3⟩
          have hb3' := (below_alloc (below_alloc (Below.refl wr.heap.size wr) (.cells #[.int .i64 t.f0, .string t.f1, .int .i64 t.f2] 36)) (.cells #[.string ⟨#[32]⟩, .string ⟨#[9]⟩, .string ⟨#[13, 10]⟩, .string ⟨#[32, 47, 47, 32, 34, 32, 47, 47, 32, 120, 10]⟩, .string ⟨#[32, 47, 47, 10, 10]⟩] 9)).trans (hb3.mono (by simp; omega))
          have b3 := hb3.block wr.heap.size (by simp; omega)
          rw [Lib.alloc_old _ _ wr.heap.size (by simp), blk_new] at b3
          have HB3 := Aside0.mk hb3'
          have hz3 := hb3.size
          simp only [World.size_alloc] at hz3
          clear hb3 hb3'
          go_wp2_with fail
          refine (Two.write1 HT.out HB3.out _ ?_).mono ?_
          · have := plain_len (l.take i); have := sumW_take l i; rw [ByteArray.size_append]; show _ + (X.size + 1) ≤ _; omega
          rintro e W4 ⟨rfl, hT4, hk4, hz4⟩
          have b4 := (hk4 wr.heap.size (Nat.le_refl _) (by omega)).trans b3
          have HT4 := Aside0.mk hT4
          have d0 := blk_cell b4 0
          have d1 := blk_cell b4 1
          have d2 := blk_cell b4 2
          simp only [List.getElem?_toArray, List.getElem?_cons_zero, List.getElem?_cons_succ] at d0 d1 d2
          clear hT4 hk4 b3 b4
          go_wp2_with fail
          refine (modcertlaw03_written.calls _ _ _ _ _ hwr).mono ?_
          rintro e W5 ⟨rfl, hb5⟩
          have HT5 := Aside0.mk (HT4.out.below hb5)
          clear hb5
          go_wp2_with fail
          refine (Two.write2 HT5.out _ ?_).mono ?_
          · have := other_len (kinds8 ks) (l.take i) 0; have := sumW_take l i; rw [ByteArray.size_append]; show _ + (11 + X.size) ≤ _; omega
          rintro e W6 ⟨rfl, hT6⟩
          have HT6 := Aside0.mk hT6
          clear hT6
          go_wp2
          go_roundw
          case rel => exact ⟨i + 1, by omega, by go_num, ⟨by rw [HPL.out, HOL.out, hgn.out, ← HX.out]; simpa [ByteArray.data_append, gapL] using HT6.out⟩⟩
          case measure => simp [intOf]; omega
        · have hgn := Aside0.mk (hg0.trans h5)
          rw [h5] at hmod
          replace hmod : Int.tmod kc 5 = 4 := hmod
          clear h5 hg0
          have q3 : decide (5 + X.size ≤ 9223372036854775807) = true := decide_eq_true (by omega)
          have q4 : (9223372036854775807 < 5 + X.size) = False := eq_false (by omega)
          go_wp2_with fail
          refine (modcertlaw03_written.calls _ _ _ _ _ hwr).mono ?_
          rintro e W3 ⟨rfl, hb3⟩
          have hb3' := (below_alloc (below_alloc (Below.refl wr.heap.size wr) (.cells #[.int .i64 t.f0, .string t.f1, .int .i64 t.f2] 36)) (.cells #[.string ⟨#[32]⟩, .string ⟨#[9]⟩, .string ⟨#[13, 10]⟩, .string ⟨#[32, 47, 47, 32, 34, 32, 47, 47, 32, 120, 10]⟩, .string ⟨#[32, 47, 47, 10, 10]⟩] 9)).trans (hb3.mono (by simp; omega))
          have b3 := hb3.block wr.heap.size (by simp; omega)
          rw [Lib.alloc_old _ _ wr.heap.size (by simp), blk_new] at b3
          have HB3 := Aside0.mk hb3'
          have hz3 := hb3.size
          simp only [World.size_alloc] at hz3
          clear hb3 hb3'
          go_wp2_with fail
          refine (Two.write1 HT.out HB3.out _ ?_).mono ?_
          · have := plain_len (l.take i); have := sumW_take l i; rw [ByteArray.size_append]; show _ + (X.size + 1) ≤ _; omega
          rintro e W4 ⟨rfl, hT4, hk4, hz4⟩
          have b4 := (hk4 wr.heap.size (Nat.le_refl _) (by omega)).trans b3
          have HT4 := Aside0.mk hT4
          have d0 := blk_cell b4 0
          have d1 := blk_cell b4 1
          have d2 := blk_cell b4 2
          simp only [List.getElem?_toArray, List.getElem?_cons_zero, List.getElem?_cons_succ] at d0 d1 d2
          clear hT4 hk4 b3 b4
          go_wp2_with fail
          refine (modcertlaw03_written.calls _ _ _ _ _ hwr).mono ?_
          rintro e W5 ⟨rfl, hb5⟩
          have HT5 := Aside0.mk (HT4.out.below hb5)
          clear hb5
          go_wp2_with fail
          refine (Two.write2 HT5.out _ ?_).mono ?_
          · have := other_len (kinds8 ks) (l.take i) 0; have := sumW_take l i; rw [ByteArray.size_append]; show _ + (5 + X.size) ≤ _; omega
          rintro e W6 ⟨rfl, hT6⟩
          have HT6 := Aside0.mk hT6
          clear hT6
          go_wp2
          go_roundw
          case rel => exact ⟨i + 1, by omega, by go_num, ⟨by rw [HPL.out, HOL.out, hgn.out, ← HX.out]; simpa [ByteArray.data_append, gapL] using HT6.out⟩⟩
          case measure => simp [intOf]; omega
      · have g5 : decide (i < ks.length) = false := decide_eq_false hik
        have g6 : decide ((i : Int) < (ks.length : Int)) = false := decide_eq_false (by omega)
        have hgn := Aside0.mk (gap_out hik)
        clear hgn0
        have q3 : decide (1 + X.size ≤ 9223372036854775807) = true := decide_eq_true (by omega)
        have q4 : (9223372036854775807 < 1 + X.size) = False := eq_false (by omega)
        go_wp2_with fail
        refine (modcertlaw03_written.calls _ _ _ _ _ hwr).mono ?_
        rintro e W3 ⟨rfl, hb3⟩
        have hb3' := (below_alloc (below_alloc (Below.refl wr.heap.size wr) (.cells #[.int .i64 t.f0, .string t.f1, .int .i64 t.f2] 36)) (.cells #[.string ⟨#[32]⟩, .string ⟨#[9]⟩, .string ⟨#[13, 10]⟩, .string ⟨#[32, 47, 47, 32, 34, 32, 47, 47, 32, 120, 10]⟩, .string ⟨#[32, 47, 47, 10, 10]⟩] 9)).trans (hb3.mono (by simp; omega))
        have b3 := hb3.block wr.heap.size (by simp; omega)
        rw [Lib.alloc_old _ _ wr.heap.size (by simp), blk_new] at b3
        have HB3 := Aside0.mk hb3'
        have hz3 := hb3.size
        simp only [World.size_alloc] at hz3
        clear hb3 hb3'
        go_wp2_with fail
        refine (Two.write1 HT.out HB3.out _ ?_).mono ?_
        · have := plain_len (l.take i); have := sumW_take l i; rw [ByteArray.size_append]; show _ + (X.size + 1) ≤ _; omega
        rintro e W4 ⟨rfl, hT4, hk4, hz4⟩
        have b4 := (hk4 wr.heap.size (Nat.le_refl _) (by omega)).trans b3
        have HT4 := Aside0.mk hT4
        have d0 := blk_cell b4 0
        have d1 := blk_cell b4 1
        have d2 := blk_cell b4 2
        simp only [List.getElem?_toArray, List.getElem?_cons_zero, List.getElem?_cons_succ] at d0 d1 d2
        clear hT4 hk4 b3 b4
        go_wp2_with fail
        refine (modcertlaw03_written.calls _ _ _ _ _ hwr).mono ?_
        rintro e W5 ⟨rfl, hb5⟩
        have HT5 := Aside0.mk (HT4.out.below hb5)
        clear hb5
        go_wp2_with fail
        refine (Two.write2 HT5.out _ ?_).mono ?_
        · have := other_len (kinds8 ks) (l.take i) 0; have := sumW_take l i; rw [ByteArray.size_append]; show _ + (1 + X.size) ≤ _; omega
        rintro e W6 ⟨rfl, hT6⟩
        have HT6 := Aside0.mk hT6
        clear hT6
        go_wp2
        go_roundw
        case rel => exact ⟨i + 1, by omega, by go_num, ⟨by rw [HPL.out, HOL.out, hgn.out, ← HX.out]; simpa [ByteArray.data_append, gapL] using HT6.out⟩⟩
        case measure => simp [intOf]; omega
    · obtain rfl : i = l.length := by omega
      rw [List.take_length] at HT
      go_wp2_with fail
      refine (HT.out.string1 (plain_ne hne)).mono ?_
      rintro e W5 ⟨rfl, p2, v2, hV2, hb5⟩
      have hG5 := Gd.below hG2 hb5
      have HV2 := Aside0.mk hV2
      have HB5 := Aside0.mk hb5
      clear hV2 hb5
      go_wp2_with fail
      refine (lexer_Lex.calls _ _ _ _ _ HL1.out hG5).mono ?_
      rintro e W6 ⟨va, rfl, hRa, hb6⟩
      obtain ⟨Aa, ca, rfl⟩ : ∃ A c, va = .slice A l1.length c := Kd.R_slice hRa
      have hG6 := Gd.below hG5 hb6
      have HV6 := Aside0.mk (HV2.out.same (hb6.block _ HV2.out.lt) (fun q hq => hb6.block _ (ownBlock_lt HV2.out.2.2 q hq).1))
      have HB6 := Aside0.mk (HB5.out.trans (hb6.mono HB5.out.size))
      have HRa := Aside0.mk hRa
      clear hRa hb6
      go_wp2_with fail
      refine (string_V _ _ _ _ _ _ HV6.out (other_ne (kinds8 ks) hne)).mono ?_
      rintro e W7 ⟨rfl, hz7, hk7, hb7⟩
      have hq2 := ownBlock_lt HV2.out.2.2
      have hHa := Kd.R_mono (Kd.R_move (Kd.R_bound HRa.out) (fun q hq => hk7 q (fun e => by have h1 := (hq2 q e.symm).1; have h2 := hq.2.1; omega))) (fun _ hk => hk.1)
      have HB7 := Aside0.mk (HB6.out.trans hb7)
      have hG7 := Gd.below hG2 HB7.out
      have HR7a := Aside0.mk hHa
      clear hHa hk7 hb7 hq2 HRa
      go_wp2_with fail
      refine (lexer_Lex.calls _ _ _ _ _ HL2.out hG7).mono ?_
      rintro e W8 ⟨vb, rfl, hRb, hb8⟩
      obtain ⟨Ab, cb, rfl⟩ : ∃ A c, vb = .slice A l2.length c := Kd.R_slice hRb
      have HR8a := Aside0.mk (Kd.R_below HR7a.out hb8)
      have HR8b := Aside0.mk hRb
      have HB8 := Aside0.mk (HB7.out.trans (hb8.mono HB7.out.size))
      have HR8 := Aside0.mk (Kd.R_below HR.out HB8.out)
      clear hRb hb8
      have ra := Kd.R_reads' HR8a.out
      have rb := Kd.R_reads' HR8b.out
      have rl := Kd.R_reads' HR8.out
      have RA := Aside0.mk ra
      have RB := Aside0.mk rb
      have RL := Aside0.mk rl
      clear ra rb rl
      go_wp2_with fail
      refine (modcertref03_Same.calls k _ _ l1 _ _ l false true _ RA.out.2.2 RA.out.2.1 RL.out.2.2 RL.out.2.1 hS1).mono ?_
      rintro e w9 ⟨rfl, nd, rfl⟩
      have rb := Kd.R_reads' (show Kd.R k36 36 (W8.drewN nd) _ _ (.slice Ab l2.length cb) l2 from by apply Kd.R_drewN; exact HR8b.out)
      have rl := Kd.R_reads' (show Kd.R k36 36 (W8.drewN nd) _ _ (.slice A l.length c) l from by apply Kd.R_drewN; exact HR8.out)
      have RB2 := Aside0.mk rb
      have RL2 := Aside0.mk rl
      clear rb rl
      go_wp2_with fail
      refine (modcertref03_Same.calls k _ _ l2 _ _ l false true _ RB2.out.2.2 RB2.out.2.1 RL2.out.2.2 RL2.out.2.1 hS2).mono ?_
      rintro e w10 ⟨rfl, nd2, rfl⟩
      go_wp2
      go_ret
      exact ⟨rfl, by repeat (first | (with_reducible exact HB2.out.trans (HB8.out.mono HB2.out.size)) | (with_reducible apply pw_below_drewN) | (with_reducible apply below_drew1))⟩
/-- the lexer answers no tokens where it answers an error. -/
theorem scan_nil : ∀ (m : List (S36 × Int)) (acc : List S36), (scanToks m acc).2.2 ≠ 0 → (scanToks m acc).1 = []
  | [], acc => fun h => absurd rfl h
  | (t, r) :: m, acc => by
    rw [scanToks]
    split
    · exact scan_nil m _
    · intro _; rfl
set_option maxRecDepth 100000 in
set_option maxHeartbeats 4000000 in
theorem returns_err (a0 : ByteArray) (a1 : Option Addr) (cap1 : Nat) (ks : List Int) (at_ r : Int) (w : World) (hG : Gd w) (hs : a0.size ≤ 1000) (hk : ks.length ≤ 1000) (hl : lexer_Lex.f a0 = some ([], at_, r)) (hr : r ≠ 0) :
    Calls Tryd.prog 7 #[.string a0, .slice a1 ks.length cap1] w fun e w' => e = .returned (.bool true) ∧ Below w.heap.size w w' := by
  have g1 : decide (1000 < a0.size) = false := decide_eq_false (by omega)
  have g2 : decide (1000 < (a0.size : Int)) = false := decide_eq_false (by omega)
  have g3 : decide (1000 < ks.length) = false := decide_eq_false (by omega)
  have g4 : decide (1000 < (ks.length : Int)) = false := decide_eq_false (by omega)
  have g5 : (r != 0) = true := by simpa using hr
  go_enter Tryd.func7, Tryd.ntmps7
  go_wp2_with (first
    | (go_at_call 11; (with_reducible refine (modcertlaw03_awake.calls true _ rfl hG).mono ?_); rintro e w1 ⟨rfl, hb1⟩; have hG1 := Gd.below hG hb1; have HB1 := Aside0.mk hb1; clear hb1)
    | (go_at_call 12; (with_reducible refine (lexer_Lex.calls _ _ _ _ _ hl hG1).mono ?_); rintro e W2 ⟨v0, rfl, hR, hb2⟩; obtain ⟨A, c, rfl⟩ : ∃ A c, v0 = .slice A 0 c := Kd.R_slice hR; have HB2 := Aside0.mk (HB1.out.trans (hb2.mono HB1.out.size)); clear hR hb2))
  go_ret
  exact ⟨rfl, HB2.out⟩
set_option maxRecDepth 100000 in
set_option maxHeartbeats 4000000 in
theorem returns_big (a0 : ByteArray) (a1 : Option Addr) (cap1 : Nat) (ks : List Int) (w : World) (hG : Gd w) (hs : 1000 < a0.size) :
    Calls Tryd.prog 7 #[.string a0, .slice a1 ks.length cap1] w fun e w' => e = .returned (.bool true) ∧ Below w.heap.size w w' := by
  have g1 : decide (1000 < a0.size) = true := decide_eq_true (by omega)
  have g2 : decide (1000 < (a0.size : Int)) = true := decide_eq_true (by omega)
  go_enter Tryd.func7, Tryd.ntmps7
  go_wp2_with (go_at_call 11; (with_reducible refine (modcertlaw03_awake.calls true _ rfl hG).mono ?_); rintro e w1 ⟨rfl, hb1⟩; have HB1 := Aside0.mk hb1; clear hb1)
  go_ret
  exact ⟨rfl, HB1.out⟩
set_option maxRecDepth 100000 in
set_option maxHeartbeats 4000000 in
theorem returns_many (a0 : ByteArray) (a1 : Option Addr) (cap1 : Nat) (ks : List Int) (w : World) (hG : Gd w) (hs : a0.size ≤ 1000) (hk : 1000 < ks.length) :
    Calls Tryd.prog 7 #[.string a0, .slice a1 ks.length cap1] w fun e w' => e = .returned (.bool true) ∧ Below w.heap.size w w' := by
  have g1 : decide (1000 < a0.size) = false := decide_eq_false (by omega)
  have g2 : decide (1000 < (a0.size : Int)) = false := decide_eq_false (by omega)
  have g3 : decide (1000 < ks.length) = true := decide_eq_true (by omega)
  have g4 : decide (1000 < (ks.length : Int)) = true := decide_eq_true (by omega)
  go_enter Tryd.func7, Tryd.ntmps7
  go_wp2_with (go_at_call 11; (with_reducible refine (modcertlaw03_awake.calls true _ rfl hG).mono ?_); rintro e w1 ⟨rfl, hb1⟩; have HB1 := Aside0.mk hb1; clear hb1)
  go_ret
  exact ⟨rfl, HB1.out⟩
theorem same_kt {a b : List S36} (h : a.map ktOf = b.map ktOf) (hl : a.length ≤ 1000000) (k : Nat) (hk : a.length < k) : modcertref03_Same.f k a b false = some true := by
  have hlen : b.length = a.length := by simpa using (congrArg List.length h).symm
  have hget : ∀ i (h1 : i < a.length) (h2 : i < b.length), a[i].f0 = b[i].f0 ∧ a[i].f1 = b[i].f1 := fun i h1 h2 => by
    have h3 : (a.map ktOf)[i]? = (b.map ktOf)[i]? := by rw [h]
    rw [List.getElem?_map, List.getElem?_map, List.getElem?_eq_getElem h1, List.getElem?_eq_getElem h2] at h3
    injection h3 with h3
    unfold ktOf at h3
    injection h3 with e1 e2
    exact ⟨e1, e2⟩
  unfold modcertref03_Same.f
  rw [if_pos (by omega)]
  have loop : ∀ (d i k : Nat), i + d = a.length → d < k → modcertref03_Same.l0 k a b false (i : Int) = some true := by
    intro d
    induction d with
    | zero =>
      intro i k hi hk
      obtain ⟨k, rfl⟩ : ∃ q, k = q + 1 := ⟨k - 1, by omega⟩
      rw [modcertref03_Same.l0, if_neg (by omega)]
    | succ d ih =>
      intro i k hi hk
      obtain ⟨k, rfl⟩ : ∃ q, k = q + 1 := ⟨k - 1, by omega⟩
      have h1 : i < a.length := by omega
      have h2 : i < b.length := by omega
      obtain ⟨e0, e1⟩ := hget i h1 h2
      have r1 : rd_T36 a (i : Int) = a[i] := by simp [rd_T36, h1]
      have r2 : rd_T36 b (i : Int) = b[i] := by simp [rd_T36, h2]
      rw [modcertref03_Same.l0, if_pos (by omega), if_pos (by omega), if_pos (by omega), r1, r2, if_pos e0, if_pos (by rw [e1]), wr64 (by omega), show ((i : Int) + 1) = ((i + 1 : Nat) : Int) by omega, ih (i + 1) k (by omega) (by omega)]
      rfl
  exact loop a.length 0 k (by omega) hk
theorem modcertlaw03_LexerReturns.walk (a0 : ByteArray) (a1 : Option Addr) (len1 cap1 : Nat) (z1 : List Int) (w : World) (hG : Gd w) (_w0 : a0.size ≤ 140737488351232) (w1 : IsRow8 w a1 len1 cap1 z1) :
    Calls Tryd.prog 7 #[.string a0, .slice a1 len1 cap1] w fun e w' => e = .returned (.bool true) ∧ Below w.heap.size w w' := by
  obtain ⟨ks, rfl, hr, hm, hw, hc⟩ := ReadsInt.ofRowC w1
  by_cases h1 : a0.size ≤ 1000
  · by_cases h2 : ks.length ≤ 1000
    · obtain ⟨l, at_, r, hl⟩ : ∃ l at_ r, lexer_Lex.f a0 = some (l, at_, r) := ⟨_, _, _, lex_some a0 (by omega)⟩
      by_cases h0 : r = 0
      · subst h0
        obtain ⟨⟨l1, e1, m1⟩, ⟨l2, e2, m2⟩, hsum, hlen, hne⟩ := lex_again a0 h1 l at_ hl (kinds8 ks)
        have n1 : l1.length = l.length := by simpa using congrArg List.length m1
        have n2 : l2.length = l.length := by simpa using congrArg List.length m2
        exact returns_small a0 a1 cap1 ks l at_ w hG h1 h2 hr hc hw hl hsum hlen hne l1 l2 e1 e2 2000 (same_kt m1 (by omega) _ (by omega)) (same_kt m2 (by omega) _ (by omega))
      · have hnil : l = [] := by
          have h3 := lex_some a0 (by omega)
          rw [hl] at h3
          have h3 := Option.some.inj h3
          have h4 := scan_nil (toksL (a0.size + 1) (a0.data.toList.drop (skipN false a0.data.toList)) (skipN false a0.data.toList)) [] (by rw [← h3]; exact h0)
          rw [← h3] at h4; exact h4
        subst hnil
        exact returns_err a0 a1 cap1 ks at_ r w hG h1 h2 hl h0
    · exact returns_many a0 a1 cap1 ks w hG h1 (by omega)
  · exact returns_big a0 a1 cap1 ks w hG (by omega)
end
end Go.Proofs.YtmndicibakaceaaDoor.Pr
