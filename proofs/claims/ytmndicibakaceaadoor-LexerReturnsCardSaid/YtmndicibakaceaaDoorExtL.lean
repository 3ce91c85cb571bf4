/- The contract of lexer.literal, in the form that the printed texts take: the bytes of a literal and where it ends; condition: where '.f' tells 'some'. -/
import Derived.Lib.Hide
import Derived.Test.YtmndicibakaceaaDoorExtW
import Derived.Test.YtmndicibakaceaaDoorShelf
import Derived.Test.YtmndicibakaceaaDoorPr0
import Derived.Test.YtmndicibakaceaaDoorPr6
import Derived.Test.YtmndicibakaceaaDoorExtB
namespace Go.Proofs.YtmndicibakaceaaDoor.Pr
open Go.RowKit Go.Proofs.YtmndicibakaceaaDoorW.PrintWords Go.Proofs.YtmndicibakaceaaDoorW.PrintLast Go.Proofs.YtmndicibakaceaaDoorW.PrintMore
attribute [local go_sem] max2_int min2_int max_two min_two
def hexV (c : Int) : Int := if 48 ≤ c ∧ c ≤ 57 then c - 48 else if 97 ≤ c ∧ c ≤ 102 then c - 87 else -1
/-- what stands behind a quote: the bytes up to the next quote, and where it ends. -/
def litLoop (s : ByteArray) : Nat → Nat → List Int → Option (List Int × Nat)
  | 0, _, _ => none
  | n + 1, i, acc =>
    if bt s i = 34 then some (acc, i + 1)
    else if bt s i < 32 then none
    else if bt s i ≠ 92 then litLoop s n (i + 1) (acc ++ [bt s i])
    else if i + 1 < s.size then
      if bt s (i + 1 : Nat) = 34 ∨ bt s (i + 1 : Nat) = 92 then litLoop s (n - 1) (i + 2) (acc ++ [bt s (i + 1 : Nat)])
      else if bt s (i + 1 : Nat) = 110 then litLoop s (n - 1) (i + 2) (acc ++ [10])
      else if bt s (i + 1 : Nat) = 120 ∧ i + 3 < s.size ∧ 0 ≤ hexV (bt s (i + 2 : Nat)) ∧ 0 ≤ hexV (bt s (i + 3 : Nat)) then litLoop s (n - 3) (i + 4) (acc ++ [16 * hexV (bt s (i + 2 : Nat)) + hexV (bt s (i + 3 : Nat))])
      else none
    else none
def litRes : Option (List Int × Nat) → ByteArray × Int × Bool
  | some (l, e) => (strOfNums l, (e : Int), true)
  | none => (⟨#[]⟩, 0, false)
def lexer_literal.f (a0 : ByteArray) (a1 : Int) : Option (ByteArray × Int × Bool) :=
  if a0.size ≤ 1000000000 ∧ 0 ≤ a1 ∧ a1 < a0.size then some (litRes (litLoop a0 (a0.size - (a1.toNat + 1)) (a1.toNat + 1) [])) else none
theorem bt_natL (s : ByteArray) (k : Nat) : ∀ h : k < s.size, ((s[k]'h).toNat : Int) = bt s (k : Int) := fun h => by
  have := bt_at s (k : Int) (by simpa using h)
  simpa using this
theorem bt_cast (s : ByteArray) (k : Nat) (h : k < s.size) : bt s (k : Int) = ((s.data.toList[k]'(by simpa using h)).toNat : Int) := by
  rw [← bt_natL s k h]; rfl
theorem hp_one (s : ByteArray) (k : Nat) (h : k < s.size) (c : UInt8) : Lib.hasPrefix (s.extract k s.size).data.toList [c] = decide (bt s (k : Int) = (c.toNat : Int)) := by
  have e : (s.extract k s.size).data.toList = s.data.toList.drop k := Lib.extract_to_end s k
  rw [e, bt_cast s k h, List.drop_eq_getElem_cons (by simpa using h)]
  unfold Lib.hasPrefix
  simp only [List.isPrefixOf, Bool.and_true]
  rw [Bool.eq_iff_iff]
  simp only [beq_iff_eq, decide_eq_true_eq]
  constructor
  · intro hh; rw [← hh]
  · intro hh; exact (UInt8.toNat_inj.1 (by exact_mod_cast hh)).symm
theorem hp_none (s : ByteArray) (k : Nat) (h : s.size ≤ k) (c : UInt8) : Lib.hasPrefix (s.extract k s.size).data.toList [c] = false := by
  have e : (s.extract k s.size).data.toList = s.data.toList.drop k := Lib.extract_to_end s k
  rw [e, List.drop_of_length_le (by simpa using h)]
  rfl
theorem hpC (s : ByteArray) (k : Nat) (c : UInt8) (b : Bool) (hb : Lib.hasPrefix (s.extract k s.size).data.toList [c] = b) (w : World) :
    Calls Tryd.prog 30 #[.string (s.extract k s.size), .string ⟨#[c]⟩] w fun e w' => e = .returned (.bool b) ∧ w' = w := by
  subst hb
  exact Tryd.strings_HasPrefix (s.extract k s.size) ⟨#[c]⟩ w
theorem hex_some (c : Int) (h0 : 0 ≤ c) (h1 : c ≤ 255) : lexer_hex.f c = some (if 0 ≤ hexV c then hexV c else 0, decide (0 ≤ hexV c)) := by
  unfold lexer_hex.f hexV
  rw [digit_some]
  simp only [Option.bind_some, isDigit]
  by_cases a : 48 ≤ c ∧ c ≤ 57
  · rw [if_pos a, if_pos (by simp; omega), if_pos (by omega), decide_eq_true (by omega)]
    congr 2
    omega
  · rw [if_neg a, if_neg (by simp; omega)]
    by_cases b : 97 ≤ c ∧ c ≤ 102
    · rw [if_pos b, if_pos b.1, if_pos b.2, if_pos (by omega), decide_eq_true (by omega)]
      congr 2
      omega
    · rw [if_neg b]
      by_cases b1 : 97 ≤ c
      · rw [if_pos b1, if_neg (by omega)]
        rfl
      · rw [if_neg b1]
        rfl
theorem hexOr : ∀ h l : Nat, h < 16 → l < 16 → Go.bits .or .u8 ((h : Int) * 16) (l : Int) = 16 * (h : Int) + (l : Int) := by
  intro h l hh hl
  have : ∀ h : Fin 16, ∀ l : Fin 16, Go.bits .or .u8 ((h.val : Int) * 16) (l.val : Int) = 16 * (h.val : Int) + (l.val : Int) := by decide +kernel
  exact this ⟨h, hh⟩ ⟨l, hl⟩
theorem hexOr' {h l : Int} (h0 : 0 ≤ h) (h1 : h ≤ 15) (l0 : 0 ≤ l) (l1 : l ≤ 15) : Go.bits .or .u8 (h * 16) l = 16 * h + l := by
  obtain ⟨a, rfl⟩ := Int.eq_ofNat_of_zero_le h0
  obtain ⟨b, rfl⟩ := Int.eq_ofNat_of_zero_le l0
  exact hexOr a b (by omega) (by omega)
theorem hexV_le (c : Int) : hexV c ≤ 15 := by unfold hexV; split; · omega
                                              split <;> omega
theorem ext_at (s : ByteArray) (k j : Nat) (hk : k + j < s.size) : ∀ h, ((((s.extract k s.size)[j]'h).toNat : Int)) = bt s (k + j : Nat) := fun h => by
  rw [← bt_natL s (k + j) hk]
  congr 2
  exact ByteArray.getElem_extract ..
set_option maxHeartbeats 2000000 in
set_option maxRecDepth 100000 in
theorem lexer_literal.calls (a0 : ByteArray) (a1 : Int) (r1 : ByteArray) (r2 : Int) (r3 : Bool) (w : World) (h : lexer_literal.f a0 a1 = some (r1, r2, r3)) :
    Calls Tryd.prog 75 #[.string a0, .int .i64 a1] w fun e w' => e = .returned (.tuple #[.string r1, .int .i64 r2, .bool r3]) ∧ Below w.heap.size w w' := by
  unfold lexer_literal.f at h
  split at h
  · rename_i hs
    obtain ⟨hs, h0, h1⟩ := hs
    obtain ⟨m, rfl⟩ := Int.eq_ofNat_of_zero_le h0
    have h' := Option.some.inj h
    have H := Lib.hid h'
    clear h h' h0
    have hs2 : a0.size ≤ 9223372036854775807 := by omega
    have h1n : m < a0.size := by omega
    go_enter Tryd.func75, Tryd.ntmps75
    go_wp2
    go_loopw [1, 7] (fun v1 v7 wr => ∃ (i : Nat) (acc : List Int), i ≤ a0.size ∧ v1 = .int .i64 i ∧ Aside0 (acc.length ≤ i) ∧ Aside0 (litRes (litLoop a0 (a0.size - i) i acc) = (r1, r2, r3)) ∧ Aside0 (wr.ownsRow w.heap.size 5 1 v7 acc.length (nums .u8 acc)) ∧ Aside0 (Below w.heap.size w wr)) (fun v1 _ _ => a0.size - (intOf v1).toNat)
    case atStart => exact ⟨m + 1, [], by omega, by go_num, ⟨by simp⟩, ⟨by simpa using H.out⟩, ⟨own_nil _ _ _ _⟩, ⟨Below.refl _ _⟩⟩
    case round =>
      clear H
      obtain ⟨i, acc, hk, rfl, HL, HR, HO, HB⟩ := hrel
      have hBs := HB.out.size
      by_cases hlt : i < a0.size
      · have hx := bt_natL a0 i
        have hb0 := (bt_range a0 i).1
        have hb1 := (bt_range a0 i).2
        have hlen : acc.length ≤ 1000000000 := by have := HL.out; omega
        have hfu := Aside0.mk (show a0.size - i = (a0.size - (i + 1)) + 1 from by omega)
        by_cases c1 : bt a0 i = 34
        · have hres := HR.out
          rw [hfu.out, litLoop, if_pos c1] at hres
          have HRes := Lib.hid hres
          have g1 : (bt a0 i == 34) = true := beq_iff_eq.2 c1
          clear hres c1 HR
          have hconv := fun W (h : W = wr) => h ▸ own_string (P := Tryd.prog) (src := 37) (dst := 9) Tryd.underlying37 Tryd.underlying5 Tryd.underlying9 HO.out
          have hcv := hconv wr rfl
          clear hconv
          go_wp2
          go_ret3
          have hE := HRes.out
          simp only [litRes, Prod.mk.injEq] at hE
          obtain ⟨rfl, rfl, rfl⟩ := hE
          exact ⟨by first | rfl | (simp; done), HB.out⟩
        · have g1 : (bt a0 i == 34) = false := beq_eq_false_iff_ne.2 c1
          by_cases c2 : bt a0 i < 32
          · have hres := HR.out
            rw [hfu.out, litLoop, if_neg c1, if_pos c2] at hres
            have HRes := Lib.hid hres
            have g2 : decide (bt a0 i < 32) = true := decide_eq_true c2
            clear hres c1 HR
            go_wp2
            go_ret3
            have hE := HRes.out
            simp only [litRes, Prod.mk.injEq] at hE
            obtain ⟨rfl, rfl, rfl⟩ := hE
            exact ⟨by first | rfl | (simp; done), HB.out⟩
          · have g2 : decide (bt a0 i < 32) = false := decide_eq_false c2
            by_cases c3 : bt a0 i ≠ 92
            · have hres := HR.out
              rw [hfu.out, litLoop, if_neg c1, if_neg c2, if_pos c3, show a0.size - (i + 1) = a0.size - (i + 1) from rfl] at hres
              have HRes := Lib.hid hres
              have g3 : (bt a0 i != 92) = true := bne_iff_ne.2 c3
              have g3' : (bt a0 i == 92) = false := beq_eq_false_iff_ne.2 c3
              clear hres c1 c2 c3 HR
              go_wp2_with (at_builtin; refine print_append_num (w0 := w) w.heap.size rfl _ _ 37 5 .u8 1 rfl Tryd.underlying37 wInfoByte (by decide) u7 acc (bt a0 i) rfl rfl HO.out HB.out hBs (by omega) ?_; intro v1 w1 ho1 hb1_ hg1 hat1; clear hg1 hat1)
              have HO1 := Aside0.mk ho1
              have HB1 := Aside0.mk hb1_
              clear ho1 hb1_
              go_wp2
              go_roundw
              case rel => exact ⟨i + 1, _, by omega, by go_num, ⟨by have := HL.out; simp; omega⟩, ⟨HRes.out⟩, HO1, HB1⟩
              case measure => simp [intOf]; omega
            · have g3 : (bt a0 i != 92) = false := by simpa using c3
              have g3' : (bt a0 i == 92) = true := by simpa using c3
              have hres := HR.out
              rw [hfu.out, litLoop, if_neg c1, if_neg c2, if_neg c3] at hres
              clear c1 c2 c3 HR
              have hmn : mn ((i : Int) + 1) (a0.size : Int) = (i : Int) + 1 := by unfold mn; omega
              have htn : ((i : Int) + 1).toNat = i + 1 := by omega
              by_cases d0 : i + 1 < a0.size
              · rw [if_pos d0] at hres
                have p34 := hp_one a0 (i + 1) d0 34
                have p92 := hp_one a0 (i + 1) d0 92
                have p110 := hp_one a0 (i + 1) d0 110
                have p120 := hp_one a0 (i + 1) d0 120
                have hsz0 : 0 < a0.size - (i + 1) := by omega
                have hsz0i : (0 : Int) < ((a0.size - (i + 1) : Nat) : Int) := by omega
                have hx0 := ext_at a0 (i + 1) 0 (by omega)
                simp only [Nat.add_zero] at hx0
                generalize hd : bt a0 (i + 1 : Nat) = d at *
                have hd0 : 0 ≤ d := by rw [← hd]; exact (bt_range _ _).1
                have hd1 : d ≤ 255 := by rw [← hd]; exact (bt_range _ _).2
                clear hd
                by_cases e34 : d = 34
                · rw [if_pos (Or.inl e34), show a0.size - (i + 1) - 1 = a0.size - (i + 2) from by omega] at hres
                  have HRes := Lib.hid hres
                  have P34 := Aside0.mk (p34.trans (decide_eq_true e34))
                  clear hres e34 p34 p92 p110 p120
                  go_wp2_with (first | (go_at_call 30; (with_reducible refine (hpC a0 (i + 1) 34 true P34.out _).mono ?_); rintro e w' ⟨rfl, rfl⟩) | (at_builtin; refine print_append_num (w0 := w) w.heap.size rfl _ _ 37 5 .u8 1 rfl Tryd.underlying37 wInfoByte (by decide) u7 acc d rfl rfl HO.out HB.out hBs (by omega) ?_; intro v1 w1 ho1 hb1_ hg1 hat1; clear hg1 hat1))
                  have HO1 := Aside0.mk ho1
                  have HB1 := Aside0.mk hb1_
                  clear ho1 hb1_
                  go_wp2
                  go_roundw
                  case rel => exact ⟨i + 2, _, by omega, by go_num, ⟨by have := HL.out; simp; omega⟩, ⟨HRes.out⟩, HO1, HB1⟩
                  case measure => simp [intOf]; omega
                · have P34 := Aside0.mk (p34.trans (decide_eq_false e34))
                  by_cases e92 : d = 92
                  · rw [if_pos (Or.inr e92), show a0.size - (i + 1) - 1 = a0.size - (i + 2) from by omega] at hres
                    have HRes := Lib.hid hres
                    have P92 := Aside0.mk (p92.trans (decide_eq_true e92))
                    clear hres e34 e92 p34 p92 p110 p120
                    go_wp2_with (first | (go_at_call 30; (with_reducible refine (hpC a0 (i + 1) 34 false P34.out _).mono ?_); rintro e w' ⟨rfl, rfl⟩) | (go_at_call 30; (with_reducible refine (hpC a0 (i + 1) 92 true P92.out _).mono ?_); rintro e w' ⟨rfl, rfl⟩) | (at_builtin; refine print_append_num (w0 := w) w.heap.size rfl _ _ 37 5 .u8 1 rfl Tryd.underlying37 wInfoByte (by decide) u7 acc d rfl rfl HO.out HB.out hBs (by omega) ?_; intro v1 w1 ho1 hb1_ hg1 hat1; clear hg1 hat1))
                    have HO1 := Aside0.mk ho1
                    have HB1 := Aside0.mk hb1_
                    clear ho1 hb1_
                    go_wp2
                    go_roundw
                    case rel => exact ⟨i + 2, _, by omega, by go_num, ⟨by have := HL.out; simp; omega⟩, ⟨HRes.out⟩, HO1, HB1⟩
                    case measure => simp [intOf]; omega
                  · have P92 := Aside0.mk (p92.trans (decide_eq_false e92))
                    rw [if_neg (by rintro (h | h) <;> contradiction)] at hres
                    by_cases e110 : d = 110
                    · rw [if_pos e110, show a0.size - (i + 1) - 1 = a0.size - (i + 2) from by omega] at hres
                      have HRes := Lib.hid hres
                      have P110 := Aside0.mk (p110.trans (decide_eq_true e110))
                      clear hres e34 e92 e110 p34 p92 p110 p120
                      go_wp2_with (first | (go_at_call 30; (with_reducible refine (hpC a0 (i + 1) 34 false P34.out _).mono ?_); rintro e w' ⟨rfl, rfl⟩) | (go_at_call 30; (with_reducible refine (hpC a0 (i + 1) 92 false P92.out _).mono ?_); rintro e w' ⟨rfl, rfl⟩) | (go_at_call 30; (with_reducible refine (hpC a0 (i + 1) 110 true P110.out _).mono ?_); rintro e w' ⟨rfl, rfl⟩) | (at_builtin; refine print_append_num (w0 := w) w.heap.size rfl _ _ 37 5 .u8 1 rfl Tryd.underlying37 wInfoByte (by decide) u7 acc 10 rfl rfl HO.out HB.out hBs (by omega) ?_; intro v1 w1 ho1 hb1_ hg1 hat1; clear hg1 hat1))
                      have HO1 := Aside0.mk ho1
                      have HB1 := Aside0.mk hb1_
                      clear ho1 hb1_
                      go_wp2
                      go_roundw
                      case rel => exact ⟨i + 2, _, by omega, by go_num, ⟨by have := HL.out; simp; omega⟩, ⟨HRes.out⟩, HO1, HB1⟩
                      case measure => simp [intOf]; omega
                    · have P110 := Aside0.mk (p110.trans (decide_eq_false e110))
                      rw [if_neg e110] at hres
                      by_cases e120 : d = 120
                      · have P120 := Aside0.mk (p120.trans (decide_eq_true e120))
                        by_cases d3 : i + 3 < a0.size
                        · have hl2 : decide (2 < a0.size - (i + 1)) = true := decide_eq_true (by omega)
                          have hl2i : decide ((2 : Int) < ((a0.size - (i + 1) : Nat) : Int)) = true := decide_eq_true (by omega)
                          have hs1 : 1 < a0.size - (i + 1) := by omega
                          have hs1i : (1 : Int) < ((a0.size - (i + 1) : Nat) : Int) := by omega
                          have hs2 : 2 < a0.size - (i + 1) := by omega
                          have hs2i : (2 : Int) < ((a0.size - (i + 1) : Nat) : Int) := by omega
                          have hx1 := ext_at a0 (i + 1) 1 (by omega)
                          have hx2 := ext_at a0 (i + 1) 2 (by omega)
                          rw [show i + 1 + 1 = i + 2 from rfl] at hx1
                          rw [show i + 1 + 2 = i + 3 from rfl] at hx2
                          generalize hX : bt a0 (i + 2 : Nat) = X at *
                          generalize hY : bt a0 (i + 3 : Nat) = Y at *
                          have X0 : 0 ≤ X := by rw [← hX]; exact (bt_range _ _).1
                          have X1 : X ≤ 255 := by rw [← hX]; exact (bt_range _ _).2
                          have Y0 : 0 ≤ Y := by rw [← hY]; exact (bt_range _ _).1
                          have Y1 : Y ≤ 255 := by rw [← hY]; exact (bt_range _ _).2
                          clear hX hY
                          have sX := hex_some X X0 X1
                          have sY := hex_some Y Y0 Y1
                          have lX := hexV_le X
                          have lY := hexV_le Y
                          by_cases oX : 0 ≤ hexV X
                          · rw [if_pos oX, decide_eq_true oX] at sX
                            by_cases oY : 0 ≤ hexV Y
                            · rw [if_pos oY, decide_eq_true oY] at sY
                              rw [if_pos ⟨e120, d3, oX, oY⟩, show a0.size - (i + 1) - 3 = a0.size - (i + 4) from by omega] at hres
                              have HRes := Lib.hid hres
                              have HX := Lib.hid sX
                              have HY := Lib.hid sY
                              have hor := hexOr' oX lX oY lY
                              clear hres sX sY e34 e92 e110 e120 p34 p92 p110 p120
                              generalize hexV X = VX at *
                              generalize hexV Y = VY at *
                              generalize hV : 16 * VX + VY = V at *
                              clear hV
                              go_wp2_with (first | (go_at_call 30; (with_reducible refine (hpC a0 (i + 1) 34 false P34.out _).mono ?_); rintro e w' ⟨rfl, rfl⟩) | (go_at_call 30; (with_reducible refine (hpC a0 (i + 1) 92 false P92.out _).mono ?_); rintro e w' ⟨rfl, rfl⟩) | (go_at_call 30; (with_reducible refine (hpC a0 (i + 1) 110 false P110.out _).mono ?_); rintro e w' ⟨rfl, rfl⟩) | (go_at_call 30; (with_reducible refine (hpC a0 (i + 1) 120 true P120.out _).mono ?_); rintro e w' ⟨rfl, rfl⟩) | (go_at_call 84; (with_reducible refine (lexer_hex.calls X VX true _ HX.out).mono ?_); rintro e w' ⟨rfl, ⟨nd, rfl⟩⟩) | (go_at_call 84; (with_reducible refine (lexer_hex.calls Y VY true _ HY.out).mono ?_); rintro e w' ⟨rfl, ⟨nd, rfl⟩⟩) | (at_builtin; refine print_append_num (w0 := w) w.heap.size rfl _ _ 37 5 .u8 1 rfl Tryd.underlying37 wInfoByte (by decide) u7 acc V rfl rfl (pw_own_below HO.out (pw_below_drewN (Below.refl _ _) _)) (pw_below_drewN HB.out _) hBs (by omega) ?_; intro v1 w1 ho1 hb1_ hg1 hat1; clear hg1 hat1))
                              have HO1 := Aside0.mk ho1
                              have HB1 := Aside0.mk hb1_
                              clear ho1 hb1_
                              go_wp2
                              go_roundw
                              case rel => exact ⟨i + 4, _, by omega, by go_num, ⟨by have := HL.out; simp; omega⟩, ⟨HRes.out⟩, HO1, HB1⟩
                              case measure => simp [intOf]; omega
                            · rw [if_neg oY, decide_eq_false oY] at sY
                              rw [if_neg (fun h => oY h.2.2.2)] at hres
                              have HRes := Lib.hid hres
                              have HX := Lib.hid sX
                              have HY := Lib.hid sY
                              clear hres sX sY e34 e92 e110 e120 p34 p92 p110 p120
                              generalize hexV X = VX at *
                              go_wp2_with (first | (go_at_call 30; (with_reducible refine (hpC a0 (i + 1) 34 false P34.out _).mono ?_); rintro e w' ⟨rfl, rfl⟩) | (go_at_call 30; (with_reducible refine (hpC a0 (i + 1) 92 false P92.out _).mono ?_); rintro e w' ⟨rfl, rfl⟩) | (go_at_call 30; (with_reducible refine (hpC a0 (i + 1) 110 false P110.out _).mono ?_); rintro e w' ⟨rfl, rfl⟩) | (go_at_call 30; (with_reducible refine (hpC a0 (i + 1) 120 true P120.out _).mono ?_); rintro e w' ⟨rfl, rfl⟩) | (go_at_call 84; (with_reducible refine (lexer_hex.calls X VX true _ HX.out).mono ?_); rintro e w' ⟨rfl, ⟨nd, rfl⟩⟩) | (go_at_call 84; (with_reducible refine (lexer_hex.calls Y 0 false _ HY.out).mono ?_); rintro e w' ⟨rfl, ⟨nd, rfl⟩⟩))
                              go_ret3
                              have hE := HRes.out
                              simp only [litRes, Prod.mk.injEq] at hE
                              obtain ⟨rfl, rfl, rfl⟩ := hE
                              exact ⟨by first | rfl | (simp; done), pw_below_drewN HB.out _⟩
                          · rw [if_neg oX, decide_eq_false oX] at sX
                            rw [if_neg (fun h => oX h.2.2.1)] at hres
                            have HRes := Lib.hid hres
                            have HX := Lib.hid sX
                            have HY := Lib.hid sY
                            clear hres sX sY e34 e92 e110 e120 p34 p92 p110 p120
                            generalize hYb : decide (0 ≤ hexV Y) = bY at *
                            generalize hYv : (if 0 ≤ hexV Y then hexV Y else 0) = vY at *
                            clear hYb hYv
                            go_wp2_with (first | (go_at_call 30; (with_reducible refine (hpC a0 (i + 1) 34 false P34.out _).mono ?_); rintro e w' ⟨rfl, rfl⟩) | (go_at_call 30; (with_reducible refine (hpC a0 (i + 1) 92 false P92.out _).mono ?_); rintro e w' ⟨rfl, rfl⟩) | (go_at_call 30; (with_reducible refine (hpC a0 (i + 1) 110 false P110.out _).mono ?_); rintro e w' ⟨rfl, rfl⟩) | (go_at_call 30; (with_reducible refine (hpC a0 (i + 1) 120 true P120.out _).mono ?_); rintro e w' ⟨rfl, rfl⟩) | (go_at_call 84; (with_reducible refine (lexer_hex.calls X 0 false _ HX.out).mono ?_); rintro e w' ⟨rfl, ⟨nd, rfl⟩⟩) | (go_at_call 84; (with_reducible refine (lexer_hex.calls Y vY bY _ HY.out).mono ?_); rintro e w' ⟨rfl, ⟨nd, rfl⟩⟩))
                            go_ret3
                            have hE := HRes.out
                            simp only [litRes, Prod.mk.injEq] at hE
                            obtain ⟨rfl, rfl, rfl⟩ := hE
                            exact ⟨by first | rfl | (simp; done), pw_below_drewN HB.out _⟩
                        · rw [if_neg (fun h => d3 h.2.1)] at hres
                          have HRes := Lib.hid hres
                          have hl2 : decide (2 < a0.size - (i + 1)) = false := decide_eq_false (by omega)
                          have hl2i : decide ((2 : Int) < ((a0.size - (i + 1) : Nat) : Int)) = false := decide_eq_false (by omega)
                          clear hres e34 e92 e110 e120 p34 p92 p110 p120
                          go_wp2_with (first | (go_at_call 30; (with_reducible refine (hpC a0 (i + 1) 34 false P34.out _).mono ?_); rintro e w' ⟨rfl, rfl⟩) | (go_at_call 30; (with_reducible refine (hpC a0 (i + 1) 92 false P92.out _).mono ?_); rintro e w' ⟨rfl, rfl⟩) | (go_at_call 30; (with_reducible refine (hpC a0 (i + 1) 110 false P110.out _).mono ?_); rintro e w' ⟨rfl, rfl⟩) | (go_at_call 30; (with_reducible refine (hpC a0 (i + 1) 120 true P120.out _).mono ?_); rintro e w' ⟨rfl, rfl⟩))
                          go_ret3
                          have hE := HRes.out
                          simp only [litRes, Prod.mk.injEq] at hE
                          obtain ⟨rfl, rfl, rfl⟩ := hE
                          exact ⟨by first | rfl | (simp; done), HB.out⟩
                      · have P120 := Aside0.mk (p120.trans (decide_eq_false e120))
                        rw [if_neg (fun h => e120 h.1)] at hres
                        have HRes := Lib.hid hres
                        clear hres e34 e92 e110 e120 p34 p92 p110 p120
                        go_wp2_with (first | (go_at_call 30; (with_reducible refine (hpC a0 (i + 1) 34 false P34.out _).mono ?_); rintro e w' ⟨rfl, rfl⟩) | (go_at_call 30; (with_reducible refine (hpC a0 (i + 1) 92 false P92.out _).mono ?_); rintro e w' ⟨rfl, rfl⟩) | (go_at_call 30; (with_reducible refine (hpC a0 (i + 1) 110 false P110.out _).mono ?_); rintro e w' ⟨rfl, rfl⟩) | (go_at_call 30; (with_reducible refine (hpC a0 (i + 1) 120 false P120.out _).mono ?_); rintro e w' ⟨rfl, rfl⟩))
                        go_ret3
                        have hE := HRes.out
                        simp only [litRes, Prod.mk.injEq] at hE
                        obtain ⟨rfl, rfl, rfl⟩ := hE
                        exact ⟨by first | rfl | (simp; done), HB.out⟩
              · rw [if_neg d0] at hres
                have HRes := Lib.hid hres
                have P34 := Aside0.mk (hp_none a0 (i + 1) (by omega) 34)
                have P92 := Aside0.mk (hp_none a0 (i + 1) (by omega) 92)
                have P110 := Aside0.mk (hp_none a0 (i + 1) (by omega) 110)
                have P120 := Aside0.mk (hp_none a0 (i + 1) (by omega) 120)
                clear hres
                go_wp2_with (first | (go_at_call 30; (with_reducible refine (hpC a0 (i + 1) 34 false P34.out _).mono ?_); rintro e w' ⟨rfl, rfl⟩) | (go_at_call 30; (with_reducible refine (hpC a0 (i + 1) 92 false P92.out _).mono ?_); rintro e w' ⟨rfl, rfl⟩) | (go_at_call 30; (with_reducible refine (hpC a0 (i + 1) 110 false P110.out _).mono ?_); rintro e w' ⟨rfl, rfl⟩) | (go_at_call 30; (with_reducible refine (hpC a0 (i + 1) 120 false P120.out _).mono ?_); rintro e w' ⟨rfl, rfl⟩))
                go_ret3
                have hE := HRes.out
                simp only [litRes, Prod.mk.injEq] at hE
                obtain ⟨rfl, rfl, rfl⟩ := hE
                exact ⟨by first | rfl | (simp; done), HB.out⟩
      · obtain rfl : i = a0.size := by omega
        have hres := HR.out
        rw [Nat.sub_self, litLoop] at hres
        have HRes := Lib.hid hres
        clear hres HR
        go_wp2
        go_ret3
        have hE := HRes.out
        simp only [litRes, Prod.mk.injEq] at hE
        obtain ⟨rfl, rfl, rfl⟩ := hE
        exact ⟨by first | rfl | (simp; done), HB.out⟩
  · cases h
end Go.Proofs.YtmndicibakaceaaDoor.Pr
