/- The contract of lexer.Quote, in the form that the printed texts take: the literal of a string; condition: where '.f' tells 'some'. -/
import Derived.Lib.Hide
import Derived.Test.YtmndicibakaceaaDoorExtA
import Derived.Test.YtmndicibakaceaaDoorExtW
namespace Go.Proofs.YtmndicibakaceaaDoor.Pr
open Go.RowKit Go.Proofs.YtmndicibakaceaaDoorW.PrintWords Go.Proofs.YtmndicibakaceaaDoorW.PrintLast Go.Proofs.YtmndicibakaceaaDoorW.PrintMore
/-- the hexadecimal digits. -/
def hexDigits : ByteArray := ⟨#[48, 49, 50, 51, 52, 53, 54, 55, 56, 57, 97, 98, 99, 100, 101, 102]⟩
/-- what stands for a byte in a literal. -/
def qByte (c : Int) : List Int :=
  if c = 34 ∨ c = 92 then [92, c] else if c = 10 then [92, 110] else if 32 ≤ c ∧ c ≤ 126 then [c] else [92, 120, bt hexDigits (c / 16), bt hexDigits (c % 16)]
def qUpto (s : ByteArray) : Nat → List Int
  | 0 => [34]
  | k + 1 => qUpto s k ++ qByte (bt s k)
def quoteI (s : ByteArray) : List Int := qUpto s s.size ++ [34]
theorem qByte_len (c : Int) : (qByte c).length ≤ 4 := by unfold qByte; split; · simp
                                                         split; · simp
                                                         split <;> simp
theorem qUpto_len (s : ByteArray) : ∀ k, (qUpto s k).length ≤ 1 + 4 * k
  | 0 => by simp [qUpto]
  | k + 1 => by have := qUpto_len s k; have := qByte_len (bt s k); simp only [qUpto, List.length_append]; omega
def lexer_Quote.f (a0 : ByteArray) : Option ByteArray := if a0.size ≤ 1000000000 then some (strOfNums (quoteI a0)) else none
theorem qByte_range {c : Int} (h0 : 0 ≤ c) (h1 : c ≤ 255) : ∀ x ∈ qByte c, 0 ≤ x ∧ x ≤ 255 := by
  intro x hx
  have b1 := bt_range hexDigits (c / 16)
  have b2 := bt_range hexDigits (c % 16)
  unfold qByte at hx
  split at hx
  · simp at hx; omega
  · split at hx
    · simp at hx; omega
    · split at hx
      · simp at hx; omega
      · simp only [List.mem_cons, List.not_mem_nil, or_false] at hx
        rcases hx with rfl | rfl | rfl | rfl <;> omega
theorem qUpto_range (s : ByteArray) : ∀ k, ∀ x ∈ qUpto s k, 0 ≤ x ∧ x ≤ 255
  | 0 => by intro x hx; simp [qUpto] at hx; omega
  | k + 1 => by
    intro x hx
    simp only [qUpto, List.mem_append] at hx
    rcases hx with hx | hx
    · exact qUpto_range s k x hx
    · exact qByte_range (bt_range s k).1 (bt_range s k).2 x hx
theorem quoteI_range (s : ByteArray) : ∀ x ∈ quoteI s, 0 ≤ x ∧ x ≤ 255 := by
  intro x hx
  simp only [quoteI, List.mem_append, List.mem_cons, List.not_mem_nil, or_false] at hx
  rcases hx with hx | rfl
  · exact qUpto_range s _ x hx
  · omega
theorem nums_bytes (l : List Int) (h : ∀ x ∈ l, 0 ≤ x ∧ x ≤ 255) : nums .u8 l = Lib.byteCells (l.map fun n => UInt8.ofNat n.toNat) := by
  unfold nums Lib.byteCells
  rw [List.map_map]
  refine List.map_congr_left fun x hx => ?_
  have := h x hx
  simp only [Function.comp, UInt8.toNat_ofNat', Value.int.injEq, true_and]
  omega
theorem usedB {T e : TypeId} {B b : Nat} {bs : List Value} {w : World} (h : Lib.BuilderAt T e B b (.pointer (some ⟨b, 0, none⟩)) bs w) : Lib.IsBuilder T e B b bs w := Or.inr h
theorem bt_natQ (s : ByteArray) (k : Nat) : ∀ h : k < s.size, ((s[k]'h).toNat : Int) = bt s (k : Int) := fun h => by
  have := bt_at s (k : Int) (by simpa using h)
  simpa using this
set_option maxHeartbeats 2000000 in
set_option maxRecDepth 100000 in
theorem lexer_Quote.calls (a0 : ByteArray) (r : ByteArray) (w : World) (h : lexer_Quote.f a0 = some r) :
    Calls Tryd.prog 25 #[.string a0] w fun e w' => e = .returned (.string r) ∧ Below w.heap.size w w' := by
  unfold lexer_Quote.f at h
  split at h
  · rename_i hs
    have h' := Option.some.inj h
    have H := Lib.hid h'
    clear h h'
    have hs2 : a0.size ≤ 9223372036854775807 := by omega
    go_enter Tryd.func25, Tryd.ntmps25
    go_wp2_with (go_at_call 53; refine (writeByte_any w.heap.size w.heap.size [] 34 _ (Lib.fresh_isBuilder _ _ _) (by decide) (by simp)).mono ?_)
    rintro e w1 ⟨rfl, h1, hb1⟩
    have h1' := Aside0.mk h1
    have hb1' := Aside0.mk (((Below.refl w.heap.size w).alloc (Nat.le_refl _) _).trans hb1)
    clear h1 hb1
    go_wp2
    go_loopw [4, 5, 9] (fun _ _ v9 wr => ∃ k : Nat, k ≤ a0.size ∧ v9 = .int .i64 k ∧ Aside0 (Lib.BuilderAt 40 5 w.heap.size w.heap.size (.pointer (some ⟨w.heap.size, 0, none⟩)) (nums .u8 (qUpto a0 k)) wr) ∧ Aside0 (Below w.heap.size w wr)) (fun _ _ v9 _ => a0.size - (intOf v9).toNat)
    case atStart => exact ⟨0, Nat.zero_le _, rfl, h1', hb1'⟩
    case round =>
      clear h1' hb1'
      obtain ⟨k, hk, rfl, HO, HB⟩ := hrel
      have hBs := HB.out.size
      have hln := qUpto_len a0 k
      by_cases hlt : k < a0.size
      · have hx := bt_natQ a0 k
        have hb0 := (bt_range a0 k).1
        have hb1 := (bt_range a0 k).2
        have hq := Aside0.mk (show qUpto a0 (k + 1) = qUpto a0 k ++ qByte (bt a0 k) from rfl)
        generalize hc : bt a0 k = c at *
        clear hc
        have hnl : ∀ n, n ≤ 4 → (nums .u8 (qUpto a0 k)).length + n ≤ 140737488355328 := fun n hn => by rw [nums_length]; omega
        by_cases c1 : c = 34 ∨ c = 92
        · have hqb := Aside0.mk (show qByte c = [92, c] from if_pos c1)
          by_cases c34 : c = 34
          · subst c34
            clear c1
            go_wp2_with fail
            refine (writeByte_any _ _ _ 92 _ (usedB HO.out) (hnl 1 (by decide)) hBs).mono ?_
            rintro e w2 ⟨rfl, h2, hb2⟩
            have H2 := Aside0.mk h2
            have HB2 := Aside0.mk (HB.out.trans hb2)
            clear h2 hb2
            go_wp2_with fail
            refine (writeByte_any _ _ _ 34 _ (usedB H2.out) (by simpa using hnl 2 (by decide)) HB2.out.size).mono ?_
            rintro e w3 ⟨rfl, h3, hb3⟩
            have H3 := Aside0.mk h3
            have HB3 := Aside0.mk (HB2.out.trans hb3)
            clear h3 hb3
            go_wp2
            go_roundw
            case rel => exact ⟨k + 1, by omega, by go_num, ⟨by rw [hq.out, hqb.out, nums_append]; simpa [nums] using H3.out⟩, HB3⟩
            case measure => simp [intOf]; omega
          · have hne1 : (c == 34) = false := beq_eq_false_iff_ne.2 c34
            have hne2 : (c == 92) = true := beq_iff_eq.2 (c1.resolve_left c34)
            clear c1 c34
            go_wp2_with fail
            refine (writeByte_any _ _ _ 92 _ (usedB HO.out) (hnl 1 (by decide)) hBs).mono ?_
            rintro e w2 ⟨rfl, h2, hb2⟩
            have H2 := Aside0.mk h2
            have HB2 := Aside0.mk (HB.out.trans hb2)
            clear h2 hb2
            go_wp2_with fail
            refine (writeByte_any _ _ _ c _ (usedB H2.out) (by simpa using hnl 2 (by decide)) HB2.out.size).mono ?_
            rintro e w3 ⟨rfl, h3, hb3⟩
            have H3 := Aside0.mk h3
            have HB3 := Aside0.mk (HB2.out.trans hb3)
            clear h3 hb3
            go_wp2
            go_roundw
            case rel => exact ⟨k + 1, by omega, by go_num, ⟨by rw [hq.out, hqb.out, nums_append]; simpa [nums] using H3.out⟩, HB3⟩
            case measure => simp [intOf]; omega
        · have hne1 : (c == 34) = false := beq_eq_false_iff_ne.2 (fun e => c1 (.inl e))
          have hne2 : (c == 92) = false := beq_eq_false_iff_ne.2 (fun e => c1 (.inr e))
          by_cases c2 : c = 10
          · have hqb := Aside0.mk (show qByte c = [92, 110] from by unfold qByte; rw [if_neg c1, if_pos c2])
            have hne3 : (c == 10) = true := beq_iff_eq.2 c2
            clear c1 c2
            go_wp2_with fail
            refine (writeString_any _ _ _ ⟨#[92, 110]⟩ _ (usedB HO.out) (hnl 2 (by decide)) hBs).mono ?_
            rintro e w2 ⟨rfl, h2, hb2⟩
            have H2 := Aside0.mk h2
            have HB2 := Aside0.mk (HB.out.trans hb2)
            clear h2 hb2
            go_wp2
            go_roundw
            case rel => exact ⟨k + 1, by omega, by go_num, ⟨by rw [hq.out, hqb.out, nums_append]; simpa [nums, Lib.strCells] using H2.out⟩, HB2⟩
            case measure => simp [intOf]; omega
          · have hne3 : (c == 10) = false := beq_eq_false_iff_ne.2 c2
            by_cases c3 : 32 ≤ c ∧ c ≤ 126
            · have hqb := Aside0.mk (show qByte c = [c] from by unfold qByte; rw [if_neg c1, if_neg c2, if_pos c3])
              have h4 : decide (32 ≤ c) = true := decide_eq_true c3.1
              have h5 : decide (c ≤ 126) = true := decide_eq_true c3.2
              clear c1 c2 c3
              go_wp2_with fail
              refine (writeByte_any _ _ _ c _ (usedB HO.out) (hnl 1 (by decide)) hBs).mono ?_
              rintro e w2 ⟨rfl, h2, hb2⟩
              have H2 := Aside0.mk h2
              have HB2 := Aside0.mk (HB.out.trans hb2)
              clear h2 hb2
              go_wp2
              go_roundw
              case rel => exact ⟨k + 1, by omega, by go_num, ⟨by rw [hq.out, hqb.out, nums_append]; simpa [nums, Lib.strCells] using H2.out⟩, HB2⟩
              case measure => simp [intOf]; omega
            · have hqb := Aside0.mk (show qByte c = [92, 120, bt hexDigits (c / 16), bt hexDigits (c % 16)] from by unfold qByte; rw [if_neg c1, if_neg c2, if_neg c3])
              have HC3 := Aside0.mk c3
              have hd1 : ∀ h, ((((⟨#[48, 49, 50, 51, 52, 53, 54, 55, 56, 57, 97, 98, 99, 100, 101, 102]⟩ : ByteArray)[(c / 16).toNat]'h).toNat : Int)) = bt hexDigits (c / 16) := fun h => bt_at hexDigits (c / 16) h
              have hd2 : ∀ h, ((((⟨#[48, 49, 50, 51, 52, 53, 54, 55, 56, 57, 97, 98, 99, 100, 101, 102]⟩ : ByteArray)[(c % 16).toNat]'h).toNat : Int)) = bt hexDigits (c % 16) := fun h => bt_at hexDigits (c % 16) h
              generalize bt hexDigits (c / 16) = D1 at *
              generalize bt hexDigits (c % 16) = D2 at *
              clear c1 c2 c3
              by_cases c4 : 32 ≤ c
              · have h4 : decide (32 ≤ c) = true := decide_eq_true c4
                have h5 : decide (c ≤ 126) = false := decide_eq_false (fun h => HC3.out ⟨c4, h⟩)
                go_wp2_with fail
                refine (writeString_any _ _ _ ⟨#[92, 120]⟩ _ (usedB HO.out) (hnl 2 (by decide)) hBs).mono ?_
                rintro e w2 ⟨rfl, h2, hb2⟩
                have H2 := Aside0.mk h2
                have HB2 := Aside0.mk (HB.out.trans hb2)
                clear h2 hb2
                go_wp2_with fail
                refine (writeByte_any _ _ _ D1 _ (usedB H2.out) (by simpa [Lib.strCells] using hnl 3 (by decide)) HB2.out.size).mono ?_
                rintro e w3 ⟨rfl, h3, hb3⟩
                have H3 := Aside0.mk h3
                have HB3 := Aside0.mk (HB2.out.trans hb3)
                clear h3 hb3
                go_wp2_with fail
                refine (writeByte_any _ _ _ D2 _ (usedB H3.out) (by simpa [Lib.strCells] using hnl 4 (by decide)) HB3.out.size).mono ?_
                rintro e w4 ⟨rfl, h4', hb4⟩
                have H4 := Aside0.mk h4'
                have HB4 := Aside0.mk (HB3.out.trans hb4)
                clear h4' hb4
                go_wp2
                go_roundw
                case rel => exact ⟨k + 1, by omega, by go_num, ⟨by rw [hq.out, hqb.out, nums_append]; simpa [nums, Lib.strCells] using H4.out⟩, HB4⟩
                case measure => simp [intOf]; omega
              · have h4 : decide (32 ≤ c) = false := decide_eq_false c4
                go_wp2_with fail
                refine (writeString_any _ _ _ ⟨#[92, 120]⟩ _ (usedB HO.out) (hnl 2 (by decide)) hBs).mono ?_
                rintro e w2 ⟨rfl, h2, hb2⟩
                have H2 := Aside0.mk h2
                have HB2 := Aside0.mk (HB.out.trans hb2)
                clear h2 hb2
                go_wp2_with fail
                refine (writeByte_any _ _ _ D1 _ (usedB H2.out) (by simpa [Lib.strCells] using hnl 3 (by decide)) HB2.out.size).mono ?_
                rintro e w3 ⟨rfl, h3, hb3⟩
                have H3 := Aside0.mk h3
                have HB3 := Aside0.mk (HB2.out.trans hb3)
                clear h3 hb3
                go_wp2_with fail
                refine (writeByte_any _ _ _ D2 _ (usedB H3.out) (by simpa [Lib.strCells] using hnl 4 (by decide)) HB3.out.size).mono ?_
                rintro e w4 ⟨rfl, h4', hb4⟩
                have H4 := Aside0.mk h4'
                have HB4 := Aside0.mk (HB3.out.trans hb4)
                clear h4' hb4
                go_wp2
                go_roundw
                case rel => exact ⟨k + 1, by omega, by go_num, ⟨by rw [hq.out, hqb.out, nums_append]; simpa [nums, Lib.strCells] using H4.out⟩, HB4⟩
                case measure => simp [intOf]; omega
      · obtain rfl : k = a0.size := by omega
        have hnl : ∀ n, n ≤ 4 → (nums .u8 (qUpto a0 a0.size)).length + n ≤ 140737488355328 := fun n hn => by rw [nums_length]; omega
        go_wp2_with fail
        refine (writeByte_any _ _ _ 34 _ (usedB HO.out) (hnl 1 (by decide)) hBs).mono ?_
        rintro e w2 ⟨rfl, h2, hb2⟩
        have H2 := Aside0.mk h2
        have HB2 := Aside0.mk (HB.out.trans hb2)
        clear h2 hb2
        have hbc : nums .u8 (qUpto a0 a0.size) ++ [Value.int .u8 34] = Lib.byteCells ((quoteI a0).map fun n => UInt8.ofNat n.toNat) := by
          rw [← nums_bytes (quoteI a0) (quoteI_range a0)]
          simp [quoteI, nums]
        have H3 := Aside0.mk (hbc ▸ H2.out)
        clear H2 hbc
        go_wp2_with fail
        refine (Tryd.Builder_String_any _ _ _ _ (usedB H3.out) HB2.out.size).mono ?_
        rintro e w3 ⟨rfl, hb3⟩
        have HB3 := Aside0.mk (HB2.out.trans hb3)
        clear hb3
        go_wp2
        go_ret
        exact ⟨by rw [← H.out]; rfl, HB3.out⟩
  · cases h
end Go.Proofs.YtmndicibakaceaaDoor.Pr
