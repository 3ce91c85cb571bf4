/- Data that came in, opened in the words of the printed texts: whole numbers, structs of whole numbers, rows of such, rows of rows; no condition. -/
import Derived.Deep.Slices
import Derived.Lib.SmallJoins
import Derived.Test.YtdccbpeajpnkjaaGreatDoorPr0
namespace Go.Proofs.YtdccbpeajpnkjaaGreatDoor.Pr
open Go.RowKit Go.Proofs.YtdccbpeajpnkjaaGreatDoorW.PrintWords Go.Proofs.YtdccbpeajpnkjaaGreatDoorW.PrintLast Go.Proofs.YtdccbpeajpnkjaaGreatDoorW.PrintMore
open Go.ChangeShapes Go.WideShapes
theorem list2 {cs : List Value} (h : cs.length = 2) : ∃ a b, cs = [a, b] := by
  match cs, h with
  | [a, b], _ => exact ⟨a, b, rfl⟩
theorem list3 {cs : List Value} (h : cs.length = 3) : ∃ a b c, cs = [a, b, c] := by
  match cs, h with
  | [a, b, c], _ => exact ⟨a, b, c, rfl⟩
/-- what reads as an element of type e is a value of the kind d. -/
def Opens (P : Program) {α : Type} (d : Kd α) (e : TypeId) : Prop :=
  ∀ (H : Type) (enc : TypeId × Value → H) (w : World) (base : Nat) (sp : Nat → Bool) (held : Bool) (n : Nat) (cs : List Value) (x : DataW H × List MemPlace), DataW.trod enc P w base sp held n e cs = some x → ∃ y, d.K w y cs
theorem opens_row {P : Program} {α : Type} {d : Kd α} {t e : TypeId} (ht : P.underlying t = some (.slice e)) (hc : P.cellsOf e = d.sz) (ho : Opens P d e) {H : Type} {enc : TypeId × Value → H} {w : World} {base : Nat} {sp : Nat → Bool} {held : Bool} {n : Nat} {cs : List Value} {x : DataW H × List MemPlace} (h : DataW.trod enc P w base sp held n t cs = some x) :
    ∃ (A : Option Addr) (c : Nat) (xs : List α), cs = [.slice A xs.length c] ∧ xs.length ≤ c ∧ d.C w A xs.length xs := by
  rcases Go.Deep.open_slice ht h with ⟨rfl, _⟩ | ⟨a, len, cap, m, n', D, Pl, rfl, _, hl, hm, hmm, _, hx⟩
  · exact ⟨none, 0, [], rfl, Nat.le_refl _, rfl, by simp, fun h0 => absurd h0 (by simp)⟩
  · have hlm : len ≤ m := by rw [hmm]; split <;> omega
    by_cases h0 : len = 0
    · subst h0
      exact ⟨some a, cap, [], rfl, Nat.zero_le _, rfl, by simp, fun h => absurd h (by simp)⟩
    obtain ⟨_, h1, h2⟩ := hx 0 (by omega)
    obtain ⟨y0, _⟩ := ho _ _ _ _ _ _ _ _ _ h2
    haveI : Inhabited α := ⟨y0⟩
    clear h1 h2
    obtain ⟨q, hq⟩ := Go.Deep.choose_lt (α := List Value × α) (n := len) (p := fun i q => w.cells? base (a.add (i * P.cellsOf e)) (P.cellsOf e) = some q.1 ∧ d.K w q.2 q.1) (fun i hi => by
      obtain ⟨cs', h1, h2⟩ := hx i (by omega)
      obtain ⟨y, hy⟩ := ho _ _ _ _ _ _ _ _ _ h2
      exact ⟨(cs', y), h1, hy⟩)
    have hxl : ((List.range len).map fun i => (q i).2).length = len := by simp
    refine ⟨some a, cap, (List.range len).map fun i => (q i).2, by rw [hxl], by rw [hxl]; exact hl, rfl, ?_, fun _ => ⟨a, rfl, fun j p hp => ?_⟩⟩
    · rw [hxl]
      have : cap ≤ 9223372036854775807 := by unfold maxLen at hm; omega
      omega
    · have hj : j < len := by
        have := (List.getElem?_eq_some_iff.1 hp).1
        rw [hxl] at this; exact this
      have hp' : (q j).2 = p := by
        rw [List.getElem?_map, List.getElem?_range hj] at hp
        exact Option.some.inj hp
      obtain ⟨h1, h2⟩ := hq j hj
      obtain ⟨_, hlen, hcell⟩ := World.cells?_some h1
      refine ⟨(q j).1, hlen.trans hc, by rw [← hp']; exact h2, fun i u hu => ?_⟩
      have hi : i < P.cellsOf e := by
        have := (List.getElem?_eq_some_iff.1 hu).1
        rw [hlen] at this; exact this
      have := hcell i hi
      rw [Go.Deep.add_add, hc] at this
      exact this.trans hu
theorem opens_slice {P : Program} {α : Type} {d : Kd α} {t e : TypeId} (ht : P.underlying t = some (.slice e)) (hc : P.cellsOf e = d.sz) (ho : Opens P d e) : Opens P (Kd.slice e d) t :=
  fun _ _ _ _ _ _ _ _ _ h => by
    obtain ⟨A, c, xs, rfl, hl, hC⟩ := opens_row ht hc ho h
    exact ⟨xs, A, c, rfl, hl, hC⟩
theorem opens_int {P : Program} {t : TypeId} {k : IntKind} (ht : P.underlying t = some (.int k)) : Opens P (Kd.int k) t :=
  fun _ _ _ _ _ _ _ _ _ h => by
    obtain ⟨n, rfl, _, _⟩ := DataW.trod_int ht h
    exact ⟨n, rfl⟩
theorem opens_string {P : Program} {t : TypeId} (ht : P.underlying t = some .string) : Opens P Kd.string t :=
  fun _ _ _ _ _ _ _ _ _ h => by
    obtain ⟨s, rfl, _⟩ := DataW.trod_string ht h
    exact ⟨s, rfl⟩
/-- a row that came in as an argument. -/
theorem open_rowv {P : Program} {α : Type} {d : Kd α} {t e : TypeId} (ht : P.underlying t = some (.slice e)) (hc : P.cellsOf e = d.sz) (ho : Opens P d e) {H : Type} {enc : TypeId × Value → H} {w : World} {base b0 : Nat} {r : Reach} {sp : Nat → Bool} {held : Bool} {v : Value} {x : DataW H} {p : List MemPlace}
    (hv : Value.okWide P w r b0 t v) (h : DataW.Trod enc P w base sp held t v x p) : ∃ (A : Option Addr) (c : Nat) (xs : List α), v = .slice A xs.length c ∧ xs.length ≤ c ∧ d.C w A xs.length xs := by
  obtain ⟨a, len, cap, rfl⟩ := okWide_slice ht hv
  obtain ⟨n, hn⟩ := h
  obtain ⟨A, c, xs, he, hl, hC⟩ := opens_row ht hc ho hn
  simp only [Value.cells, List.cons.injEq, and_true] at he
  exact ⟨A, c, xs, he, hl, hC⟩
end Go.Proofs.YtdccbpeajpnkjaaGreatDoor.Pr
