/- Printed by a program of this work's own (wip/myprint.py) for these statements: functions of the program as Lean functions, and proofs that a call of the Go function returns just what the Lean function tells; conditions: where the Lean function tells 'some'. -/
import Derived.Test.YtmndicibakaceaaDoorPr0
import Derived.Test.YtmndicibakaceaaDoorPr1
import Derived.Test.YtmndicibakaceaaDoorPr2
import Derived.Test.YtmndicibakaceaaDoorExtD
import Derived.Test.YtmndicibakaceaaDoorExtE
import Derived.Test.YtmndicibakaceaaDoorExtQ
import Derived.Test.YtmndicibakaceaaDoorGlob
namespace Go.Proofs.YtmndicibakaceaaDoor.Pr
open Go.RowKit Go.Proofs.YtmndicibakaceaaDoorW.PrintWords Go.Proofs.YtmndicibakaceaaDoorW.PrintLast Go.Proofs.YtmndicibakaceaaDoorW.PrintMore
attribute [local go_sem] max2_int min2_int max_two min_two max_three min_three max_four min_four   -- for this text's walks alone
set_option linter.unusedVariables false
set_option linter.unusedSimpArgs false

attribute [local go_sem high] eqA36
/-! ### modcertlaw03_LexerQuotes: function 6 -/
def modcertlaw03_LexerQuotes.l0 : Nat → ByteArray → ByteArray → Int → Int → Option (Bool)
  | 0, _, _, _, _ => none
  | k + 1, x0, x3, x16, x17 => if x17 < x16 then (if 0 ≤ x17 then (if x17 < (x3.size : Int) then (if (bt x3 x17) < 32 then (some false) else (if (bt x3 x17) > 126 then (some false) else (modcertlaw03_LexerQuotes.l0 k x0 x3 x16 (wrap64 (x17 + 1))))) else (none)) else (none)) else (if 1 + x3.size ≤ 9223372036854775807 then ((lexer_Lex.f ((⟨#[32]⟩ : ByteArray) ++ x3)).bind fun bt314 => (if bt314.2.2 = 0 then (if (bt314.1.length : Int) = 2 then (if 0 < (bt314.1.length : Int) then (some (((rd_T36 bt314.1 0).f0) == 4 && ((((rd_T36 bt314.1 0).f1).toList) == x0.toList && (((rd_T36 bt314.1 0).f2) == 1)))) else (none)) else (some false)) else (some false))) else (none))
def modcertlaw03_LexerQuotes.f (k : Nat) (a0 : ByteArray) : Option (Bool) := (modcertlaw03_awake.f).bind fun t312 => (if t312 = true then (if (a0.size : Int) > 1000 then (some true) else ((lexer_Quote.f a0).bind fun t313 => (modcertlaw03_LexerQuotes.l0 k a0 t313 (t313.size : Int) 0))) else (some false))
theorem modcertlaw03_LexerQuotes.mono_l : ∀ k, (∀ y0 y1 y2 y3, LeO (modcertlaw03_LexerQuotes.l0 k y0 y1 y2 y3) (modcertlaw03_LexerQuotes.l0 (k + 1) y0 y1 y2 y3))
  | 0 => fun _ _ _ _ r h => by simp [modcertlaw03_LexerQuotes.l0] at h
  | k + 1 => by
    have ih0 := modcertlaw03_LexerQuotes.mono_l k
    · intro y0 y1 y2 y3
      unfold modcertlaw03_LexerQuotes.l0
      repeat' first
      | (with_reducible exact ih0 _ _ _ _)
      | (with_reducible exact LeO.refl _)
      | (with_reducible exact LeO.none _)
      | (with_reducible refine LeO.ite ?_ ?_)
      | (with_reducible refine LeO.bind ?_ (fun _ => ?_))
      | exact ih0 _ _ _ _
      | exact LeO.none _
      | refine LeO.ite ?_ ?_
      | refine LeO.bind ?_ (fun _ => ?_)
theorem modcertlaw03_LexerQuotes.mono : ∀ a0 k, LeO (modcertlaw03_LexerQuotes.f k a0) (modcertlaw03_LexerQuotes.f (k + 1) a0) := by
  intro a0 k
  have ih0 := modcertlaw03_LexerQuotes.mono_l k
  unfold modcertlaw03_LexerQuotes.f
  repeat' first
      | (with_reducible exact ih0 _ _ _ _)
      | (with_reducible exact LeO.refl _)
      | (with_reducible exact LeO.none _)
      | (with_reducible refine LeO.ite ?_ ?_)
      | (with_reducible refine LeO.bind ?_ (fun _ => ?_))
      | exact ih0 _ _ _ _
      | exact LeO.none _
      | refine LeO.ite ?_ ?_
      | refine LeO.bind ?_ (fun _ => ?_)
set_option maxHeartbeats 8000000 in
set_option maxRecDepth 100000 in
theorem modcertlaw03_LexerQuotes.calls (k : Nat) (a0 : ByteArray) (r : Bool) (w : World) (h : modcertlaw03_LexerQuotes.f k a0 = some r) (hG : Gd w)  :
    Calls Tryd.prog 6 #[.string a0] w fun e w' => e = .returned (.bool r) ∧ Below w.heap.size w w' := by
  have HG := Aside0.mk hG
  clear hG
  have hu36 := Tryd.underlying36
  have HB := Aside0.mk (Below.refl w.heap.size w)
  have H : ((modcertlaw03_awake.f).bind fun t312 => (if t312 = true then (if (a0.size : Int) > 1000 then (some true) else ((lexer_Quote.f a0).bind fun t313 => (modcertlaw03_LexerQuotes.l0 k a0 t313 (t313.size : Int) 0))) else (some false))) = some r := h
  clear h
  replace H := Option.bind_eq_some_iff.mp H
  obtain ⟨t312, A20, H⟩ := H
  replace H : (if t312 = true then (if (a0.size : Int) > 1000 then (some true) else ((lexer_Quote.f a0).bind fun t313 => (modcertlaw03_LexerQuotes.l0 k a0 t313 (t313.size : Int) 0))) else (some false)) = some r := H
  have A2 := Aside0.mk A20
  clear A20
  by_cases c3 : t312 = true
  · subst c3
    have H1 : (if (a0.size : Int) > 1000 then (some true) else ((lexer_Quote.f a0).bind fun t313 => (modcertlaw03_LexerQuotes.l0 k a0 t313 (t313.size : Int) 0))) = some r := by rw [if_pos rfl] at H; exact H
    clear H
    have H := H1
    clear H1
    by_cases c4 : (a0.size : Int) > 1000
    · rw [if_pos c4] at H
      have c4b0 : decide (1000 < (a0.size : Int)) = true := decide_eq_true c4
      have c4b1 : decide (1000 < a0.size) = true := decide_eq_true (by omega)
      clear c4
      obtain rfl := Option.some.inj H
      go_enter Tryd.func6, Tryd.ntmps6
      go_wp2_with (first | ((with_reducible refine gate_callee (f := 11) rfl ?_); refine goesL_ (some 8) rfl rfl Tryd.func11 (by kernel_rfl) rfl #[] rfl (by (try simp only [List.map_toArray, List.map_cons, List.map_nil]); first | done | rfl | (simp only [List.length_drop, List.length_take]; rfl)) ?_; (with_reducible refine (modcertlaw03_awake.calls  true _ A2.out ?gd_).mono ?_); (case gd_ => first | exact HG.out | exact Gd.below HG.out (by repeat (first | (with_reducible first | exact Below.refl _ _ | exact HB.out | apply below_alloc | apply pw_below_drewN | apply below_drew1) | exact HB.out)) | exact Gd.below HG.out (by first | exact HB | (refine Below.trans ?_ ?_ <;> first | exact HB.out))); rintro e w5 ⟨rfl, hb⟩; refine ⟨_, rfl, ?_⟩; have n0_ := Aside0.mk (below_step (by repeat (first | (with_reducible first | exact HB.out | apply below_alloc | apply pw_below_drewN | apply below_drew1) | exact HB.out)) hb); clear HB; have HB := n0_; clear n0_; (try clear hb); (try clear hb2); (try clear hk); (try clear hi)))
      go_ret
      exact ⟨by first | rfl | (simp [errW_none, errW_some] <;> rfl) | (simp [*, errW_none, errW_some] <;> rfl), by repeat (first | (with_reducible first | exact HB.out | apply below_alloc | apply pw_below_drewN | apply below_drew1) | exact HB.out)⟩
    · rw [if_neg c4] at H
      have c4b0 : decide (1000 < (a0.size : Int)) = false := decide_eq_false c4
      have c4b1 : decide (1000 < a0.size) = false := decide_eq_false (by omega)
      clear c4
      replace H := Option.bind_eq_some_iff.mp H
      obtain ⟨t313, A60, H⟩ := H
      replace H : (modcertlaw03_LexerQuotes.l0 k a0 t313 (t313.size : Int) 0) = some r := H
      have A6 := Aside0.mk A60
      clear A60
      have H' := Aside0.mk H
      clear H
      go_enter Tryd.func6, Tryd.ntmps6
      go_wp2_with (first | ((with_reducible refine gate_callee (f := 11) rfl ?_); refine goesL_ (some 8) rfl rfl Tryd.func11 (by kernel_rfl) rfl #[] rfl (by (try simp only [List.map_toArray, List.map_cons, List.map_nil]); first | done | rfl | (simp only [List.length_drop, List.length_take]; rfl)) ?_; (with_reducible refine (modcertlaw03_awake.calls  true _ A2.out ?gd_).mono ?_); (case gd_ => first | exact HG.out | exact Gd.below HG.out (by repeat (first | (with_reducible first | exact Below.refl _ _ | exact HB.out | apply below_alloc | apply pw_below_drewN | apply below_drew1) | exact HB.out)) | exact Gd.below HG.out (by first | exact HB | (refine Below.trans ?_ ?_ <;> first | exact HB.out))); rintro e w7 ⟨rfl, hb⟩; refine ⟨_, rfl, ?_⟩; have n0_ := Aside0.mk (below_step (by repeat (first | (with_reducible first | exact HB.out | apply below_alloc | apply pw_below_drewN | apply below_drew1) | exact HB.out)) hb); clear HB; have HB := n0_; clear n0_; (try clear hb); (try clear hb2); (try clear hk); (try clear hi)) | ((with_reducible refine gate_callee (f := 25) rfl ?_); refine goesL_ (some 14) rfl rfl Tryd.func25 (by kernel_rfl) rfl #[.string a0] rfl (by (try simp only [List.map_toArray, List.map_cons, List.map_nil]); first | done | rfl | (simp only [List.length_drop, List.length_take]; rfl)) ?_; (with_reducible refine (lexer_Quote.calls a0 t313 _ A6.out).mono ?_); rintro e w8 ⟨rfl, hb⟩; refine ⟨_, rfl, ?_⟩; have n0_ := Aside0.mk (below_step (by repeat (first | (with_reducible first | exact HB.out | apply below_alloc | apply pw_below_drewN | apply below_drew1) | exact HB.out)) hb); clear HB; have HB := n0_; clear n0_; (try clear hb); (try clear hb2); (try clear hk); (try clear hi)))
      go_loopg [17] k (fun kq v17 w' => ∃ (x17_1 : Int), v17 = .int .i64 x17_1 ∧ Aside0 (modcertlaw03_LexerQuotes.l0 kq a0 t313 (t313.size : Int) x17_1 = some r) ∧ Aside0 (kq ≤ k) ∧ Aside0 (Below w.heap.size w w'))
      case atStart => exact ⟨(0), (by first | rfl | (simp; done) | (simp [*]; done)), H', ⟨Nat.le_refl _⟩, ⟨by repeat (first | (with_reducible first | exact HB.out | apply below_alloc | apply pw_below_drewN | apply below_drew1) | exact HB.out)⟩⟩
      case round =>
        clear H'
        try clear c1
        try clear c2
        try clear p2
        try clear c3
        try clear c4
        try clear c4b0
        try clear c4b1
        try clear c6
        obtain ⟨x17_1, rfl, HA, HK1, HB⟩ := hrel
        cases gk with
        | zero => exact absurd HA.out (by simp [modcertlaw03_LexerQuotes.l0])
        | succ k1 =>
          have H := HA.out
          clear HA
          simp only [modcertlaw03_LexerQuotes.l0] at H
          by_cases c9 : x17_1 < (t313.size : Int)
          · rw [if_pos c9] at H
            have c9b0 : decide (x17_1 < (t313.size : Int)) = true := decide_eq_true c9
            clear c9
            by_cases c10 : 0 ≤ x17_1
            · rw [if_pos c10] at H
              have c10b0 : decide (0 ≤ x17_1) = true := decide_eq_true c10
              clear c10
              by_cases c11 : x17_1 < (t313.size : Int)
              · rw [if_pos c11] at H
                have c11b0 : decide (x17_1 < (t313.size : Int)) = true := decide_eq_true c11
                clear c11
                by_cases c13 : (bt t313 x17_1) < 32
                · rw [if_pos c13] at H
                  have c13b0 : decide ((bt t313 x17_1) < 32) = true := decide_eq_true c13
                  clear c13
                  obtain rfl := Option.some.inj H
                  have p12 : 0 ≤ (x17_1 : Int) := of_decide_eq_true (by first | (with_reducible assumption) | assumption)
                  have q12 : x17_1 < (t313.size : Int) := of_decide_eq_true (by first | (with_reducible assumption) | assumption)
                  have hx12 := bt_at t313 x17_1
                  replace p12 := eq_true p12
                  replace q12 := eq_true q12
                  go_wp2
                  go_ret
                  exact ⟨by first | rfl | (simp [errW_none, errW_some] <;> rfl) | (simp [*, errW_none, errW_some] <;> rfl), by repeat (first | (with_reducible first | exact HB.out | apply below_alloc | apply pw_below_drewN | apply below_drew1) | exact HB.out)⟩
                · rw [if_neg c13] at H
                  have c13b0 : decide ((bt t313 x17_1) < 32) = false := decide_eq_false c13
                  clear c13
                  by_cases c15 : (bt t313 x17_1) > 126
                  · rw [if_pos c15] at H
                    have c15b0 : decide (126 < (bt t313 x17_1)) = true := decide_eq_true c15
                    clear c15
                    obtain rfl := Option.some.inj H
                    have p12 : 0 ≤ (x17_1 : Int) := of_decide_eq_true (by first | (with_reducible assumption) | assumption)
                    have q12 : x17_1 < (t313.size : Int) := of_decide_eq_true (by first | (with_reducible assumption) | assumption)
                    have hx12 := bt_at t313 x17_1
                    replace p12 := eq_true p12
                    replace q12 := eq_true q12
                    have p14 : 0 ≤ (x17_1 : Int) := of_decide_eq_true (by first | (with_reducible assumption) | assumption)
                    have q14 : x17_1 < (t313.size : Int) := of_decide_eq_true (by first | (with_reducible assumption) | assumption)
                    have hx14 := bt_at t313 x17_1
                    replace p14 := eq_true p14
                    replace q14 := eq_true q14
                    go_wp2
                    go_ret
                    exact ⟨by first | rfl | (simp [errW_none, errW_some] <;> rfl) | (simp [*, errW_none, errW_some] <;> rfl), by repeat (first | (with_reducible first | exact HB.out | apply below_alloc | apply pw_below_drewN | apply below_drew1) | exact HB.out)⟩
                  · rw [if_neg c15] at H
                    have c15b0 : decide (126 < (bt t313 x17_1)) = false := decide_eq_false c15
                    clear c15
                    have H' := Aside0.mk H
                    clear H
                    have p12 : 0 ≤ (x17_1 : Int) := of_decide_eq_true (by first | (with_reducible assumption) | assumption)
                    have q12 : x17_1 < (t313.size : Int) := of_decide_eq_true (by first | (with_reducible assumption) | assumption)
                    have hx12 := bt_at t313 x17_1
                    replace p12 := eq_true p12
                    replace q12 := eq_true q12
                    have p14 : 0 ≤ (x17_1 : Int) := of_decide_eq_true (by first | (with_reducible assumption) | assumption)
                    have q14 : x17_1 < (t313.size : Int) := of_decide_eq_true (by first | (with_reducible assumption) | assumption)
                    have hx14 := bt_at t313 x17_1
                    replace p14 := eq_true p14
                    replace q14 := eq_true q14
                    go_wp2
                    go_roundg k1
                    case measure => have := HK1.out; omega
                    case rel => exact ⟨(wrap64 (x17_1 + 1)), (by first | rfl | (simp; done) | (simp [*]; done)), H', ⟨by have := HK1.out; omega⟩, ⟨by repeat (first | (with_reducible first | exact HB.out | apply below_alloc | apply pw_below_drewN | apply below_drew1) | exact HB.out)⟩⟩
              · rw [if_neg c11] at H
                exact absurd H (by simp)
            · rw [if_neg c10] at H
              exact absurd H (by simp)
          · rw [if_neg c9] at H
            have c9b0 : decide (x17_1 < (t313.size : Int)) = false := decide_eq_false c9
            clear c9
            by_cases c16 : 1 + t313.size ≤ 9223372036854775807
            · rw [if_pos c16] at H
              have c16b0 := eq_true c16
              have c16b1 : decide (1 + t313.size ≤ 9223372036854775807) = true := decide_eq_true c16
              try have c16b2 : (9223372036854775807 < 1 + t313.size) = False := eq_false (Nat.not_lt.2 c16)
              replace H := Option.bind_eq_some_iff.mp H
              obtain ⟨⟨t314, t315, t316⟩, A170, H⟩ := H
              replace H : (if t316 = 0 then (if (t314.length : Int) = 2 then (if 0 < (t314.length : Int) then (some (((rd_T36 t314 0).f0) == 4 && ((((rd_T36 t314 0).f1).toList) == a0.toList && (((rd_T36 t314 0).f2) == 1)))) else (none)) else (some false)) else (some false)) = some r := H
              have A17 := Aside0.mk A170
              clear A170
              by_cases c18 : t316 = 0
              · rw [if_pos c18] at H
                have c18b0 : (t316 == 0) = true := beq_iff_eq.mpr c18
                have c18b1 : (t316 != 0) = false := bne_eq_false_iff_eq.mpr c18
                clear c18
                by_cases c19 : (t314.length : Int) = 2
                · rw [if_pos c19] at H
                  have c19b0 : ((t314.length : Int) == 2) = true := beq_iff_eq.mpr c19
                  have c19b1 : ((t314.length : Int) != 2) = false := bne_eq_false_iff_eq.mpr c19
                  clear c19
                  by_cases c20 : 0 < (t314.length : Int)
                  · rw [if_pos c20] at H
                    have c20b0 : decide (0 < (t314.length : Int)) = true := decide_eq_true c20
                    have c20b1 : decide (0 < t314.length) = true := decide_eq_true (by omega)
                    clear c20
                    obtain rfl := Option.some.inj H
                    go_wp2_with (first | ((with_reducible refine gate_callee (f := 12) rfl ?_); refine goesL_ (some 34) rfl rfl Tryd.func12 (by kernel_rfl) rfl #[.string ((⟨#[32]⟩ : ByteArray) ++ t313)] rfl (by (try simp only [List.map_toArray, List.map_cons, List.map_nil]); first | done | rfl | (simp only [List.length_drop, List.length_take]; rfl)) ?_; (with_reducible refine (lexer_Lex.calls ((⟨#[32]⟩ : ByteArray) ++ t313) t314 t315 t316 _ A17.out ?gd_).mono ?_); (case gd_ => first | exact HG.out | exact Gd.below HG.out (by repeat (first | (with_reducible first | exact Below.refl _ _ | exact HB.out | apply below_alloc | apply pw_below_drewN | apply below_drew1) | exact HB.out)) | exact Gd.below HG.out (by first | exact HB | (refine Below.trans ?_ ?_ <;> first | exact HB.out))); rintro e w21 ⟨v317, rfl, ho0, hb⟩; refine ⟨_, rfl, ?_⟩; have n0_ := Aside0.mk (Kd.R_lower ho0 (below_size (by repeat (first | (with_reducible first | exact HB.out | apply below_alloc | apply pw_below_drewN | apply below_drew1) | exact HB.out)))); have n1_ := Aside0.mk (below_step (by repeat (first | (with_reducible first | exact HB.out | apply below_alloc | apply pw_below_drewN | apply below_drew1) | exact HB.out)) hb); clear HB; have HO318 := n0_; have HB := n1_; clear n0_ n1_; (try clear hb); (try clear hb2); (try clear hk); (try clear hi); (try clear ho0); obtain ⟨Ao22, co22, eo22⟩ := Kd.R_slice HO318.out; subst eo22; have p319 : 0 ≤ (0 : Int) := (by omega); have q319 : 0 < (t314.length : Int) := of_decide_eq_true (by first | (with_reducible assumption) | assumption); obtain ⟨ad319, e319, hx319_0, hx319_1, hx319_2⟩ := at_T36 (Kd.R_reads' HO318.out).2.2 0 p319 q319; cases e319; have qi319 : (0 < t314.length) = True := eq_true (by omega); (try rw [show ((0 : Int)).toNat = 0 from rfl] at hx319_0); (try rw [show 0 * 3 = 0 from rfl] at hx319_0); (try rw [Addr.add_zero'] at hx319_0); (try rw [show ((0 : Int)).toNat = 0 from rfl] at hx319_1); (try rw [show 0 * 3 = 0 from rfl] at hx319_1); (try rw [Addr.add_zero'] at hx319_1); (try rw [show ((0 : Int)).toNat = 0 from rfl] at hx319_2); (try rw [show 0 * 3 = 0 from rfl] at hx319_2); (try rw [Addr.add_zero'] at hx319_2); replace p319 := eq_true p319; replace q319 := eq_true q319))
                    go_ret
                    exact ⟨by first | rfl | (simp [errW_none, errW_some] <;> rfl) | (simp [*, errW_none, errW_some] <;> rfl), by repeat (first | (with_reducible first | exact HB.out | apply below_alloc | apply pw_below_drewN | apply below_drew1) | exact HB.out)⟩
                  · rw [if_neg c20] at H
                    exact absurd H (by simp)
                · rw [if_neg c19] at H
                  have c19b0 : ((t314.length : Int) == 2) = false := beq_eq_false_iff_ne.mpr c19
                  have c19b1 : ((t314.length : Int) != 2) = true := bne_iff_ne.mpr c19
                  obtain rfl := Option.some.inj H
                  go_wp2_with (first | ((with_reducible refine gate_callee (f := 12) rfl ?_); refine goesL_ (some 34) rfl rfl Tryd.func12 (by kernel_rfl) rfl #[.string ((⟨#[32]⟩ : ByteArray) ++ t313)] rfl (by (try simp only [List.map_toArray, List.map_cons, List.map_nil]); first | done | rfl | (simp only [List.length_drop, List.length_take]; rfl)) ?_; (with_reducible refine (lexer_Lex.calls ((⟨#[32]⟩ : ByteArray) ++ t313) t314 t315 t316 _ A17.out ?gd_).mono ?_); (case gd_ => first | exact HG.out | exact Gd.below HG.out (by repeat (first | (with_reducible first | exact Below.refl _ _ | exact HB.out | apply below_alloc | apply pw_below_drewN | apply below_drew1) | exact HB.out)) | exact Gd.below HG.out (by first | exact HB | (refine Below.trans ?_ ?_ <;> first | exact HB.out))); rintro e w23 ⟨v317, rfl, ho0, hb⟩; refine ⟨_, rfl, ?_⟩; have n0_ := Aside0.mk (Kd.R_lower ho0 (below_size (by repeat (first | (with_reducible first | exact HB.out | apply below_alloc | apply pw_below_drewN | apply below_drew1) | exact HB.out)))); have n1_ := Aside0.mk (below_step (by repeat (first | (with_reducible first | exact HB.out | apply below_alloc | apply pw_below_drewN | apply below_drew1) | exact HB.out)) hb); clear HB; have HO318 := n0_; have HB := n1_; clear n0_ n1_; (try clear hb); (try clear hb2); (try clear hk); (try clear hi); (try clear ho0); obtain ⟨Ao24, co24, eo24⟩ := Kd.R_slice HO318.out; subst eo24))
                  go_ret
                  exact ⟨by first | rfl | (simp [errW_none, errW_some] <;> rfl) | (simp [*, errW_none, errW_some] <;> rfl), by repeat (first | (with_reducible first | exact HB.out | apply below_alloc | apply pw_below_drewN | apply below_drew1) | exact HB.out)⟩
              · rw [if_neg c18] at H
                have c18b0 : (t316 == 0) = false := beq_eq_false_iff_ne.mpr c18
                have c18b1 : (t316 != 0) = true := bne_iff_ne.mpr c18
                obtain rfl := Option.some.inj H
                go_wp2_with (first | ((with_reducible refine gate_callee (f := 12) rfl ?_); refine goesL_ (some 34) rfl rfl Tryd.func12 (by kernel_rfl) rfl #[.string ((⟨#[32]⟩ : ByteArray) ++ t313)] rfl (by (try simp only [List.map_toArray, List.map_cons, List.map_nil]); first | done | rfl | (simp only [List.length_drop, List.length_take]; rfl)) ?_; (with_reducible refine (lexer_Lex.calls ((⟨#[32]⟩ : ByteArray) ++ t313) t314 t315 t316 _ A17.out ?gd_).mono ?_); (case gd_ => first | exact HG.out | exact Gd.below HG.out (by repeat (first | (with_reducible first | exact Below.refl _ _ | exact HB.out | apply below_alloc | apply pw_below_drewN | apply below_drew1) | exact HB.out)) | exact Gd.below HG.out (by first | exact HB | (refine Below.trans ?_ ?_ <;> first | exact HB.out))); rintro e w25 ⟨v317, rfl, ho0, hb⟩; refine ⟨_, rfl, ?_⟩; have n0_ := Aside0.mk (Kd.R_lower ho0 (below_size (by repeat (first | (with_reducible first | exact HB.out | apply below_alloc | apply pw_below_drewN | apply below_drew1) | exact HB.out)))); have n1_ := Aside0.mk (below_step (by repeat (first | (with_reducible first | exact HB.out | apply below_alloc | apply pw_below_drewN | apply below_drew1) | exact HB.out)) hb); clear HB; have HO318 := n0_; have HB := n1_; clear n0_ n1_; (try clear hb); (try clear hb2); (try clear hk); (try clear hi); (try clear ho0)))
                go_ret
                exact ⟨by first | rfl | (simp [errW_none, errW_some] <;> rfl) | (simp [*, errW_none, errW_some] <;> rfl), by repeat (first | (with_reducible first | exact HB.out | apply below_alloc | apply pw_below_drewN | apply below_drew1) | exact HB.out)⟩
            · rw [if_neg c16] at H
              exact absurd H (by simp)
  · replace c3 := Bool.eq_false_iff.mpr c3
    subst c3
    have H1 : (some false) = some r := by rw [if_neg (show ¬ (false = true) by decide)] at H; exact H
    clear H
    have H := H1
    clear H1
    obtain rfl := Option.some.inj H
    go_enter Tryd.func6, Tryd.ntmps6
    go_wp2_with (first | ((with_reducible refine gate_callee (f := 11) rfl ?_); refine goesL_ (some 8) rfl rfl Tryd.func11 (by kernel_rfl) rfl #[] rfl (by (try simp only [List.map_toArray, List.map_cons, List.map_nil]); first | done | rfl | (simp only [List.length_drop, List.length_take]; rfl)) ?_; (with_reducible refine (modcertlaw03_awake.calls  false _ A2.out ?gd_).mono ?_); (case gd_ => first | exact HG.out | exact Gd.below HG.out (by repeat (first | (with_reducible first | exact Below.refl _ _ | exact HB.out | apply below_alloc | apply pw_below_drewN | apply below_drew1) | exact HB.out)) | exact Gd.below HG.out (by first | exact HB | (refine Below.trans ?_ ?_ <;> first | exact HB.out))); rintro e w26 ⟨rfl, hb⟩; refine ⟨_, rfl, ?_⟩; have n0_ := Aside0.mk (below_step (by repeat (first | (with_reducible first | exact HB.out | apply below_alloc | apply pw_below_drewN | apply below_drew1) | exact HB.out)) hb); clear HB; have HB := n0_; clear n0_; (try clear hb); (try clear hb2); (try clear hk); (try clear hi)))
    go_ret
    exact ⟨by first | rfl | (simp [errW_none, errW_some] <;> rfl) | (simp [*, errW_none, errW_some] <;> rfl), by repeat (first | (with_reducible first | exact HB.out | apply below_alloc | apply pw_below_drewN | apply below_drew1) | exact HB.out)⟩

/-- THE ONE PURE STATEMENT of modcertlaw03_LexerQuotes: yours. -/
def modcertlaw03_LexerQuotes.Pure : Prop := ∀ (a0 : ByteArray), a0.size ≤ 140737488351232 → ∃ k, modcertlaw03_LexerQuotes.f k a0 = some true
theorem modcertlaw03_LexerQuotes.walk (P : modcertlaw03_LexerQuotes.Pure) (a0 : ByteArray) (w : World) (hG : Gd w) (w0 : a0.size ≤ 140737488351232) :
    Calls Tryd.prog 6 #[.string a0] w fun e w' => e = .returned (.bool true) ∧ Below w.heap.size w w' := by
  obtain ⟨k, h⟩ := P a0 w0
  refine (modcertlaw03_LexerQuotes.calls k a0 true w h hG).mono ?_
  rintro e w' ⟨rfl, hd⟩
  exact ⟨rfl, hd⟩

/-! ### modcertlaw03_LexerOffsets: function 8 -/
mutual
def modcertlaw03_LexerOffsets.l0 : Nat → ByteArray → List (S36) → Int → Int → List (S36) → Int → Int → Option (Bool)
  | 0, _, _, _, _, _, _, _ => none
  | k + 1, x0, x3, x4, x6, x35, x36, x37 => if x37 < x36 then (if 0 ≤ x37 then (if x37 < (x35.length : Int) then (if ((rd_T36 x35 x37).f2) < x6 then (modcertlaw03_LexerOffsets.j1 k x0 x3 x4 x35 x36 x37 true ((rd_T36 x35 x37).f0) ((rd_T36 x35 x37).f1) ((rd_T36 x35 x37).f2)) else (if ((rd_T36 x35 x37).f2) > (x0.size : Int) then (modcertlaw03_LexerOffsets.j1 k x0 x3 x4 x35 x36 x37 true ((rd_T36 x35 x37).f0) ((rd_T36 x35 x37).f1) ((rd_T36 x35 x37).f2)) else (modcertlaw03_LexerOffsets.j1 k x0 x3 x4 x35 x36 x37 ((((rd_T36 x35 x37).f0) == 0) != (x37 == (wrap64 ((x3.length : Int) - 1)))) ((rd_T36 x35 x37).f0) ((rd_T36 x35 x37).f1) ((rd_T36 x35 x37).f2)))) else (none)) else (none)) else (some false)
def modcertlaw03_LexerOffsets.j1 : Nat → ByteArray → List (S36) → Int → List (S36) → Int → Int → Bool → Int → ByteArray → Int → Option (Bool)
  | 0, _, _, _, _, _, _, _, _, _, _ => none
  | k + 1, x0, x3, x4, x35, x36, x37, x63, x328000, x328001, x328002 => if x63 = true then (some false) else (if x328000 = 0 then (if x328002 = (x0.size : Int) then (if x328001.toList = ([] : List UInt8) then (some (x4 == 0)) else (some false)) else (some false)) else (if x328000 = 4 then (if 0 ≤ x328002 then (if x328002 ≤ (x0.size : Int) then ((strings_HasPrefix.f (x0.extract (x328002 : Int).toNat x0.size) (⟨#[34]⟩ : ByteArray)).bind fun t328 => (if t328 = true then (modcertlaw03_LexerOffsets.l0 k x0 x3 x4 (wrap64 ((wrap64 (x328002 + (x328001.size : Int))) + 2)) x35 x36 (wrap64 (x37 + 1))) else (some false))) else (none)) else (none)) else (if x328001.toList = ([] : List UInt8) then (some false) else (if 0 ≤ x328002 then (if x328002 ≤ (x0.size : Int) then ((strings_HasPrefix.f (x0.extract (x328002 : Int).toNat x0.size) x328001).bind fun t329 => (if t329 = true then (modcertlaw03_LexerOffsets.l0 k x0 x3 x4 (wrap64 (x328002 + (x328001.size : Int))) x35 x36 (wrap64 (x37 + 1))) else (some false))) else (none)) else (none)))))
end
def modcertlaw03_LexerOffsets.f (k : Nat) (a0 : ByteArray) : Option (Bool) := (modcertlaw03_awake.f).bind fun t320 => (if t320 = true then (if (a0.size : Int) > 1000 then (some true) else ((lexer_Lex.f a0).bind fun bt321 => (if bt321.2.2 = 0 then (modcertlaw03_LexerOffsets.l0 k a0 bt321.1 bt321.2.1 0 bt321.1 (bt321.1.length : Int) 0) else (if (bt321.1.length : Int) = 0 then (if bt321.2.1 ≥ 0 then (some (decide (bt321.2.1 < (a0.size : Int)))) else (some false)) else (some false))))) else (some false))
theorem modcertlaw03_LexerOffsets.mono_l : ∀ k, (∀ y0 y1 y2 y3 y4 y5 y6, LeO (modcertlaw03_LexerOffsets.l0 k y0 y1 y2 y3 y4 y5 y6) (modcertlaw03_LexerOffsets.l0 (k + 1) y0 y1 y2 y3 y4 y5 y6)) ∧ (∀ y0 y1 y2 y3 y4 y5 y6 y7 y8 y9, LeO (modcertlaw03_LexerOffsets.j1 k y0 y1 y2 y3 y4 y5 y6 y7 y8 y9) (modcertlaw03_LexerOffsets.j1 (k + 1) y0 y1 y2 y3 y4 y5 y6 y7 y8 y9))
  | 0 => ⟨fun _ _ _ _ _ _ _ r h => by simp [modcertlaw03_LexerOffsets.l0] at h, fun _ _ _ _ _ _ _ _ _ _ r h => by simp [modcertlaw03_LexerOffsets.j1] at h⟩
  | k + 1 => by
    obtain ⟨ih0, ih1⟩ := modcertlaw03_LexerOffsets.mono_l k
    refine ⟨?_, ?_⟩
    · intro y0 y1 y2 y3 y4 y5 y6
      unfold modcertlaw03_LexerOffsets.l0
      repeat' first
      | (with_reducible exact ih0 _ _ _ _ _ _ _)
      | (with_reducible exact ih1 _ _ _ _ _ _ _ _ _ _)
      | (with_reducible exact LeO.refl _)
      | (with_reducible exact LeO.none _)
      | (with_reducible refine LeO.ite ?_ ?_)
      | (with_reducible refine LeO.bind ?_ (fun _ => ?_))
      | exact ih0 _ _ _ _ _ _ _
      | exact ih1 _ _ _ _ _ _ _ _ _ _
      | exact LeO.none _
      | refine LeO.ite ?_ ?_
      | refine LeO.bind ?_ (fun _ => ?_)
    · intro y0 y1 y2 y3 y4 y5 y6 y7 y8 y9
      unfold modcertlaw03_LexerOffsets.j1
      repeat' first
      | (with_reducible exact ih0 _ _ _ _ _ _ _)
      | (with_reducible exact ih1 _ _ _ _ _ _ _ _ _ _)
      | (with_reducible exact LeO.refl _)
      | (with_reducible exact LeO.none _)
      | (with_reducible refine LeO.ite ?_ ?_)
      | (with_reducible refine LeO.bind ?_ (fun _ => ?_))
      | exact ih0 _ _ _ _ _ _ _
      | exact ih1 _ _ _ _ _ _ _ _ _ _
      | exact LeO.none _
      | refine LeO.ite ?_ ?_
      | refine LeO.bind ?_ (fun _ => ?_)
theorem modcertlaw03_LexerOffsets.mono : ∀ a0 k, LeO (modcertlaw03_LexerOffsets.f k a0) (modcertlaw03_LexerOffsets.f (k + 1) a0) := by
  intro a0 k
  obtain ⟨ih0, ih1⟩ := modcertlaw03_LexerOffsets.mono_l k
  unfold modcertlaw03_LexerOffsets.f
  repeat' first
      | (with_reducible exact ih0 _ _ _ _ _ _ _)
      | (with_reducible exact ih1 _ _ _ _ _ _ _ _ _ _)
      | (with_reducible exact LeO.refl _)
      | (with_reducible exact LeO.none _)
      | (with_reducible refine LeO.ite ?_ ?_)
      | (with_reducible refine LeO.bind ?_ (fun _ => ?_))
      | exact ih0 _ _ _ _ _ _ _
      | exact ih1 _ _ _ _ _ _ _ _ _ _
      | exact LeO.none _
      | refine LeO.ite ?_ ?_
      | refine LeO.bind ?_ (fun _ => ?_)
set_option maxHeartbeats 8000000 in
set_option maxRecDepth 100000 in
theorem modcertlaw03_LexerOffsets.calls (k : Nat) (a0 : ByteArray) (r : Bool) (w : World) (h : modcertlaw03_LexerOffsets.f k a0 = some r) (hG : Gd w)  :
    Calls Tryd.prog 8 #[.string a0] w fun e w' => e = .returned (.bool r) ∧ Below w.heap.size w w' := by
  have HG := Aside0.mk hG
  clear hG
  have hu36 := Tryd.underlying36
  have HB := Aside0.mk (Below.refl w.heap.size w)
  have H : ((modcertlaw03_awake.f).bind fun t320 => (if t320 = true then (if (a0.size : Int) > 1000 then (some true) else ((lexer_Lex.f a0).bind fun bt321 => (if bt321.2.2 = 0 then (modcertlaw03_LexerOffsets.l0 k a0 bt321.1 bt321.2.1 0 bt321.1 (bt321.1.length : Int) 0) else (if (bt321.1.length : Int) = 0 then (if bt321.2.1 ≥ 0 then (some (decide (bt321.2.1 < (a0.size : Int)))) else (some false)) else (some false))))) else (some false))) = some r := h
  clear h
  replace H := Option.bind_eq_some_iff.mp H
  obtain ⟨t320, A20, H⟩ := H
  replace H : (if t320 = true then (if (a0.size : Int) > 1000 then (some true) else ((lexer_Lex.f a0).bind fun bt321 => (if bt321.2.2 = 0 then (modcertlaw03_LexerOffsets.l0 k a0 bt321.1 bt321.2.1 0 bt321.1 (bt321.1.length : Int) 0) else (if (bt321.1.length : Int) = 0 then (if bt321.2.1 ≥ 0 then (some (decide (bt321.2.1 < (a0.size : Int)))) else (some false)) else (some false))))) else (some false)) = some r := H
  have A2 := Aside0.mk A20
  clear A20
  by_cases c3 : t320 = true
  · subst c3
    have H1 : (if (a0.size : Int) > 1000 then (some true) else ((lexer_Lex.f a0).bind fun bt321 => (if bt321.2.2 = 0 then (modcertlaw03_LexerOffsets.l0 k a0 bt321.1 bt321.2.1 0 bt321.1 (bt321.1.length : Int) 0) else (if (bt321.1.length : Int) = 0 then (if bt321.2.1 ≥ 0 then (some (decide (bt321.2.1 < (a0.size : Int)))) else (some false)) else (some false))))) = some r := by rw [if_pos rfl] at H; exact H
    clear H
    have H := H1
    clear H1
    by_cases c4 : (a0.size : Int) > 1000
    · rw [if_pos c4] at H
      have c4b0 : decide (1000 < (a0.size : Int)) = true := decide_eq_true c4
      have c4b1 : decide (1000 < a0.size) = true := decide_eq_true (by omega)
      clear c4
      obtain rfl := Option.some.inj H
      go_enter Tryd.func8, Tryd.ntmps8
      go_wp2_with (first | (go_at_call 11; (with_reducible refine (modcertlaw03_awake.calls  true _ A2.out ?gd_).mono ?_); (case gd_ => first | exact HG.out | exact Gd.below HG.out (by repeat (first | (with_reducible first | exact Below.refl _ _ | exact HB.out | apply below_alloc | apply pw_below_drewN | apply below_drew1) | exact HB.out)) | exact Gd.below HG.out (by first | exact HB | (refine Below.trans ?_ ?_ <;> first | exact HB.out))); rintro e w5 ⟨rfl, hb⟩; have n0_ := Aside0.mk (below_step (by repeat (first | (with_reducible first | exact HB.out | apply below_alloc | apply pw_below_drewN | apply below_drew1) | exact HB.out)) hb); clear HB; have HB := n0_; clear n0_; (try clear hb); (try clear hb2); (try clear hk); (try clear hi)))
      repeat (go_quiet (first | (go_at_call 11; (with_reducible refine (modcertlaw03_awake.calls  true _ A2.out ?gd_).mono ?_); (case gd_ => first | exact HG.out | exact Gd.below HG.out (by repeat (first | (with_reducible first | exact Below.refl _ _ | exact HB.out | apply below_alloc | apply pw_below_drewN | apply below_drew1) | exact HB.out)) | exact Gd.below HG.out (by first | exact HB | (refine Below.trans ?_ ?_ <;> first | exact HB.out))); rintro e w5 ⟨rfl, hb⟩; have n0_ := Aside0.mk (below_step (by repeat (first | (with_reducible first | exact HB.out | apply below_alloc | apply pw_below_drewN | apply below_drew1) | exact HB.out)) hb); clear HB; have HB := n0_; clear n0_; (try clear hb); (try clear hb2); (try clear hk); (try clear hi))); try go_wp2_with (first | (go_at_call 11; (with_reducible refine (modcertlaw03_awake.calls  true _ A2.out ?gd_).mono ?_); (case gd_ => first | exact HG.out | exact Gd.below HG.out (by repeat (first | (with_reducible first | exact Below.refl _ _ | exact HB.out | apply below_alloc | apply pw_below_drewN | apply below_drew1) | exact HB.out)) | exact Gd.below HG.out (by first | exact HB | (refine Below.trans ?_ ?_ <;> first | exact HB.out))); rintro e w5 ⟨rfl, hb⟩; have n0_ := Aside0.mk (below_step (by repeat (first | (with_reducible first | exact HB.out | apply below_alloc | apply pw_below_drewN | apply below_drew1) | exact HB.out)) hb); clear HB; have HB := n0_; clear n0_; (try clear hb); (try clear hb2); (try clear hk); (try clear hi))))
      go_ret
      exact ⟨by first | rfl | (simp [errW_none, errW_some] <;> rfl) | (simp [*, errW_none, errW_some] <;> rfl), by repeat (first | (with_reducible first | exact HB.out | apply below_alloc | apply pw_below_drewN | apply below_drew1) | exact HB.out)⟩
    · rw [if_neg c4] at H
      have c4b0 : decide (1000 < (a0.size : Int)) = false := decide_eq_false c4
      have c4b1 : decide (1000 < a0.size) = false := decide_eq_false (by omega)
      clear c4
      replace H := Option.bind_eq_some_iff.mp H
      obtain ⟨⟨t321, t322, t323⟩, A60, H⟩ := H
      replace H : (if t323 = 0 then (modcertlaw03_LexerOffsets.l0 k a0 t321 t322 0 t321 (t321.length : Int) 0) else (if (t321.length : Int) = 0 then (if t322 ≥ 0 then (some (decide (t322 < (a0.size : Int)))) else (some false)) else (some false))) = some r := H
      have A6 := Aside0.mk A60
      clear A60
      by_cases c7 : t323 = 0
      · rw [if_pos c7] at H
        have c7b0 : (t323 == 0) = true := beq_iff_eq.mpr c7
        have c7b1 : (t323 != 0) = false := bne_eq_false_iff_eq.mpr c7
        clear c7
        have H' := Aside0.mk H
        clear H
        go_enter Tryd.func8, Tryd.ntmps8
        go_wp2_with (first | (go_at_call 11; (with_reducible refine (modcertlaw03_awake.calls  true _ A2.out ?gd_).mono ?_); (case gd_ => first | exact HG.out | exact Gd.below HG.out (by repeat (first | (with_reducible first | exact Below.refl _ _ | exact HB.out | apply below_alloc | apply pw_below_drewN | apply below_drew1) | exact HB.out)) | exact Gd.below HG.out (by first | exact HB | (refine Below.trans ?_ ?_ <;> first | exact HB.out))); rintro e w8 ⟨rfl, hb⟩; have n0_ := Aside0.mk (below_step (by repeat (first | (with_reducible first | exact HB.out | apply below_alloc | apply pw_below_drewN | apply below_drew1) | exact HB.out)) hb); clear HB; have HB := n0_; clear n0_; (try clear hb); (try clear hb2); (try clear hk); (try clear hi)) | (go_at_call 12; (with_reducible refine (lexer_Lex.calls a0 t321 t322 t323 _ A6.out ?gd_).mono ?_); (case gd_ => first | exact HG.out | exact Gd.below HG.out (by repeat (first | (with_reducible first | exact Below.refl _ _ | exact HB.out | apply below_alloc | apply pw_below_drewN | apply below_drew1) | exact HB.out)) | exact Gd.below HG.out (by first | exact HB | (refine Below.trans ?_ ?_ <;> first | exact HB.out))); rintro e w9 ⟨v324, rfl, ho0, hb⟩; have n0_ := Aside0.mk (Kd.R_lower ho0 (below_size (by repeat (first | (with_reducible first | exact HB.out | apply below_alloc | apply pw_below_drewN | apply below_drew1) | exact HB.out)))); have n1_ := Aside0.mk (below_step (by repeat (first | (with_reducible first | exact HB.out | apply below_alloc | apply pw_below_drewN | apply below_drew1) | exact HB.out)) hb); clear HB; have HO325 := n0_; have HB := n1_; clear n0_ n1_; (try clear hb); (try clear hb2); (try clear hk); (try clear hi); (try clear ho0); obtain ⟨Ao10, co10, eo10⟩ := Kd.R_slice HO325.out; subst eo10))
        repeat (go_quiet (first | (go_at_call 11; (with_reducible refine (modcertlaw03_awake.calls  true _ A2.out ?gd_).mono ?_); (case gd_ => first | exact HG.out | exact Gd.below HG.out (by repeat (first | (with_reducible first | exact Below.refl _ _ | exact HB.out | apply below_alloc | apply pw_below_drewN | apply below_drew1) | exact HB.out)) | exact Gd.below HG.out (by first | exact HB | (refine Below.trans ?_ ?_ <;> first | exact HB.out))); rintro e w8 ⟨rfl, hb⟩; have n0_ := Aside0.mk (below_step (by repeat (first | (with_reducible first | exact HB.out | apply below_alloc | apply pw_below_drewN | apply below_drew1) | exact HB.out)) hb); clear HB; have HB := n0_; clear n0_; (try clear hb); (try clear hb2); (try clear hk); (try clear hi)) | (go_at_call 12; (with_reducible refine (lexer_Lex.calls a0 t321 t322 t323 _ A6.out ?gd_).mono ?_); (case gd_ => first | exact HG.out | exact Gd.below HG.out (by repeat (first | (with_reducible first | exact Below.refl _ _ | exact HB.out | apply below_alloc | apply pw_below_drewN | apply below_drew1) | exact HB.out)) | exact Gd.below HG.out (by first | exact HB | (refine Below.trans ?_ ?_ <;> first | exact HB.out))); rintro e w9 ⟨v324, rfl, ho0, hb⟩; have n0_ := Aside0.mk (Kd.R_lower ho0 (below_size (by repeat (first | (with_reducible first | exact HB.out | apply below_alloc | apply pw_below_drewN | apply below_drew1) | exact HB.out)))); have n1_ := Aside0.mk (below_step (by repeat (first | (with_reducible first | exact HB.out | apply below_alloc | apply pw_below_drewN | apply below_drew1) | exact HB.out)) hb); clear HB; have HO325 := n0_; have HB := n1_; clear n0_ n1_; (try clear hb); (try clear hb2); (try clear hk); (try clear hi); (try clear ho0); obtain ⟨Ao10, co10, eo10⟩ := Kd.R_slice HO325.out; subst eo10)); try go_wp2_with (first | (go_at_call 11; (with_reducible refine (modcertlaw03_awake.calls  true _ A2.out ?gd_).mono ?_); (case gd_ => first | exact HG.out | exact Gd.below HG.out (by repeat (first | (with_reducible first | exact Below.refl _ _ | exact HB.out | apply below_alloc | apply pw_below_drewN | apply below_drew1) | exact HB.out)) | exact Gd.below HG.out (by first | exact HB | (refine Below.trans ?_ ?_ <;> first | exact HB.out))); rintro e w8 ⟨rfl, hb⟩; have n0_ := Aside0.mk (below_step (by repeat (first | (with_reducible first | exact HB.out | apply below_alloc | apply pw_below_drewN | apply below_drew1) | exact HB.out)) hb); clear HB; have HB := n0_; clear n0_; (try clear hb); (try clear hb2); (try clear hk); (try clear hi)) | (go_at_call 12; (with_reducible refine (lexer_Lex.calls a0 t321 t322 t323 _ A6.out ?gd_).mono ?_); (case gd_ => first | exact HG.out | exact Gd.below HG.out (by repeat (first | (with_reducible first | exact Below.refl _ _ | exact HB.out | apply below_alloc | apply pw_below_drewN | apply below_drew1) | exact HB.out)) | exact Gd.below HG.out (by first | exact HB | (refine Below.trans ?_ ?_ <;> first | exact HB.out))); rintro e w9 ⟨v324, rfl, ho0, hb⟩; have n0_ := Aside0.mk (Kd.R_lower ho0 (below_size (by repeat (first | (with_reducible first | exact HB.out | apply below_alloc | apply pw_below_drewN | apply below_drew1) | exact HB.out)))); have n1_ := Aside0.mk (below_step (by repeat (first | (with_reducible first | exact HB.out | apply below_alloc | apply pw_below_drewN | apply below_drew1) | exact HB.out)) hb); clear HB; have HO325 := n0_; have HB := n1_; clear n0_ n1_; (try clear hb); (try clear hb2); (try clear hk); (try clear hi); (try clear ho0); obtain ⟨Ao10, co10, eo10⟩ := Kd.R_slice HO325.out; subst eo10)))
        go_loopg [6, 37] k (fun kq v6 v37 w' => ∃ (x6_1 : Int) (x37_1 : Int), v6 = .int .i64 x6_1 ∧ v37 = .int .i64 x37_1 ∧ Aside0 (modcertlaw03_LexerOffsets.l0 kq a0 t321 t322 x6_1 t321 (t321.length : Int) x37_1 = some r) ∧ Aside0 (kq ≤ k) ∧ Aside0 (Kd.R k36 36 w' w.heap.size (fun _ => True) (.slice Ao10 t321.length co10) t321) ∧ Aside0 (Kd.R k36 36 w' w.heap.size (fun _ => True) (.slice Ao10 t321.length co10) t321) ∧ Aside0 (Below w.heap.size w w'))
        case atStart => exact ⟨(0), (0), (by first | rfl | (simp; done) | (simp [*]; done)), (by first | rfl | (simp; done) | (simp [*]; done)), H', ⟨Nat.le_refl _⟩, ⟨by (with_reducible repeat (first | apply Kd.R_alloc | apply Kd.R_drewN | apply Kd.R_drew)); exact HO325.out⟩, ⟨by (with_reducible repeat (first | apply Kd.R_alloc | apply Kd.R_drewN | apply Kd.R_drew)); exact HO325.out⟩, ⟨by repeat (first | (with_reducible first | exact HB.out | apply below_alloc | apply pw_below_drewN | apply below_drew1) | exact HB.out)⟩⟩
        case round =>
          clear H'
          try clear p2
          try clear c3
          try clear c4
          try clear c4b0
          try clear c4b1
          try clear c7
          try clear c7b0
          try clear c7b1
          try clear c8
          obtain ⟨x6_1, x37_1, rfl, rfl, HA, HK1, HO_3, HO_35, HB⟩ := hrel
          cases gk with
          | zero => exact absurd HA.out (by simp [modcertlaw03_LexerOffsets.l0])
          | succ k1 =>
            have H := HA.out
            clear HA
            simp only [modcertlaw03_LexerOffsets.l0] at H
            by_cases c11 : x37_1 < (t321.length : Int)
            · rw [if_pos c11] at H
              have c11b0 : decide (x37_1 < (t321.length : Int)) = true := decide_eq_true c11
              clear c11
              by_cases c12 : 0 ≤ x37_1
              · rw [if_pos c12] at H
                have c12b0 : decide (0 ≤ x37_1) = true := decide_eq_true c12
                clear c12
                by_cases c13 : x37_1 < (t321.length : Int)
                · rw [if_pos c13] at H
                  have c13b0 : decide (x37_1 < (t321.length : Int)) = true := decide_eq_true c13
                  clear c13
                  have HC14 := Aside0.mk H
                  clear H
                  have p326 : 0 ≤ (x37_1 : Int) := of_decide_eq_true (by first | (with_reducible assumption) | assumption)
                  have q326 : x37_1 < (t321.length : Int) := of_decide_eq_true (by first | (with_reducible assumption) | assumption)
                  obtain ⟨ad326, e326, hx326_0, hx326_1, hx326_2⟩ := at_T36 (Kd.R_reads' HO_35.out).2.2 x37_1 p326 q326
                  cases e326
                  replace p326 := eq_true p326
                  replace q326 := eq_true q326
                  go_upto_region 12 with (first | ((with_reducible refine gate_dst (N := 8) rfl ?_); (try (refine gate_guard (by rfl) ?_; dsimp only)); refine box_event ?hg (N := 8) ?hd (cs := #[.int .i64 0, .string (⟨#[]⟩ : ByteArray), .int .i64 0]) (t := 36) ?hr ?_; (case hd => rfl); (case hg => rfl); (case hr => first | (go_simp; done) | (go_simp; rfl)); intro gb327 hg w15 hbox hb; have n0_ := Aside0.mk (Kd.R_below (Kd.R_elderB (by (with_reducible repeat (first | apply Kd.R_alloc | apply Kd.R_drewN | apply Kd.R_drew)); exact HO_3.out) gb327 (Nat.le_of_eq hg.symm)) hb); have n1_ := Aside0.mk (Kd.R_below (Kd.R_elderB (by (with_reducible repeat (first | apply Kd.R_alloc | apply Kd.R_drewN | apply Kd.R_drew)); exact HO_35.out) gb327 (Nat.le_of_eq hg.symm)) hb); have n2_ := Aside0.mk (below_step (by repeat (first | (with_reducible first | exact HB.out | apply below_alloc | apply pw_below_drewN | apply below_drew1) | exact HB.out)) hb); have n3_ := Aside0.mk (hbox); have n4_ := Aside0.mk ((by rw [hg]; exact (below_size (by repeat (first | (with_reducible first | exact HB.out | apply below_alloc | apply pw_below_drewN | apply below_drew1) | exact HB.out))) : w.heap.size ≤ gb327)); have n5_ := Aside0.mk ((by rw [hg]; exact (below_size (by repeat (first | (with_reducible first | exact HB.out | apply below_alloc | apply pw_below_drewN | apply below_drew1) | exact HB.out))) : w.heap.size ≤ gb327)); clear HO_3; clear HO_35; clear HB; have HO_3 := n0_; have HO_35 := n1_; have HB := n2_; have BK327 := n3_; have GW327 := n4_; have GE327 := n5_; clear n0_ n1_ n2_ n3_ n4_ n5_; clear hb hbox hg; have hcz16_0 : w15.cell? ⟨gb327, 0, none⟩ = some (.int .i64 0) := (blk_cell BK327.out 0).trans rfl; have hcz16_1 : w15.cell? ⟨gb327, 1, none⟩ = some (.string (⟨#[]⟩ : ByteArray)) := (blk_cell BK327.out 1).trans rfl; have hcz16_2 : w15.cell? ⟨gb327, 2, none⟩ = some (.int .i64 0) := (blk_cell BK327.out 2).trans rfl; have hfz16_0 := blk_frozen BK327.out 0; have hfz16_1 := blk_frozen BK327.out 1; have hfz16_2 := blk_frozen BK327.out 2))
                  repeat (go_quiet (first | ((with_reducible refine gate_dst (N := 8) rfl ?_); (try (refine gate_guard (by rfl) ?_; dsimp only)); refine box_event ?hg (N := 8) ?hd (cs := #[.int .i64 0, .string (⟨#[]⟩ : ByteArray), .int .i64 0]) (t := 36) ?hr ?_; (case hd => rfl); (case hg => rfl); (case hr => first | (go_simp; done) | (go_simp; rfl)); intro gb327 hg w15 hbox hb; have n0_ := Aside0.mk (Kd.R_below (Kd.R_elderB (by (with_reducible repeat (first | apply Kd.R_alloc | apply Kd.R_drewN | apply Kd.R_drew)); exact HO_3.out) gb327 (Nat.le_of_eq hg.symm)) hb); have n1_ := Aside0.mk (Kd.R_below (Kd.R_elderB (by (with_reducible repeat (first | apply Kd.R_alloc | apply Kd.R_drewN | apply Kd.R_drew)); exact HO_35.out) gb327 (Nat.le_of_eq hg.symm)) hb); have n2_ := Aside0.mk (below_step (by repeat (first | (with_reducible first | exact HB.out | apply below_alloc | apply pw_below_drewN | apply below_drew1) | exact HB.out)) hb); have n3_ := Aside0.mk (hbox); have n4_ := Aside0.mk ((by rw [hg]; exact (below_size (by repeat (first | (with_reducible first | exact HB.out | apply below_alloc | apply pw_below_drewN | apply below_drew1) | exact HB.out))) : w.heap.size ≤ gb327)); have n5_ := Aside0.mk ((by rw [hg]; exact (below_size (by repeat (first | (with_reducible first | exact HB.out | apply below_alloc | apply pw_below_drewN | apply below_drew1) | exact HB.out))) : w.heap.size ≤ gb327)); clear HO_3; clear HO_35; clear HB; have HO_3 := n0_; have HO_35 := n1_; have HB := n2_; have BK327 := n3_; have GW327 := n4_; have GE327 := n5_; clear n0_ n1_ n2_ n3_ n4_ n5_; clear hb hbox hg; have hcz16_0 : w15.cell? ⟨gb327, 0, none⟩ = some (.int .i64 0) := (blk_cell BK327.out 0).trans rfl; have hcz16_1 : w15.cell? ⟨gb327, 1, none⟩ = some (.string (⟨#[]⟩ : ByteArray)) := (blk_cell BK327.out 1).trans rfl; have hcz16_2 : w15.cell? ⟨gb327, 2, none⟩ = some (.int .i64 0) := (blk_cell BK327.out 2).trans rfl; have hfz16_0 := blk_frozen BK327.out 0; have hfz16_1 := blk_frozen BK327.out 1; have hfz16_2 := blk_frozen BK327.out 2)); go_upto_region 12 with (first | ((with_reducible refine gate_dst (N := 8) rfl ?_); (try (refine gate_guard (by rfl) ?_; dsimp only)); refine box_event ?hg (N := 8) ?hd (cs := #[.int .i64 0, .string (⟨#[]⟩ : ByteArray), .int .i64 0]) (t := 36) ?hr ?_; (case hd => rfl); (case hg => rfl); (case hr => first | (go_simp; done) | (go_simp; rfl)); intro gb327 hg w15 hbox hb; have n0_ := Aside0.mk (Kd.R_below (Kd.R_elderB (by (with_reducible repeat (first | apply Kd.R_alloc | apply Kd.R_drewN | apply Kd.R_drew)); exact HO_3.out) gb327 (Nat.le_of_eq hg.symm)) hb); have n1_ := Aside0.mk (Kd.R_below (Kd.R_elderB (by (with_reducible repeat (first | apply Kd.R_alloc | apply Kd.R_drewN | apply Kd.R_drew)); exact HO_35.out) gb327 (Nat.le_of_eq hg.symm)) hb); have n2_ := Aside0.mk (below_step (by repeat (first | (with_reducible first | exact HB.out | apply below_alloc | apply pw_below_drewN | apply below_drew1) | exact HB.out)) hb); have n3_ := Aside0.mk (hbox); have n4_ := Aside0.mk ((by rw [hg]; exact (below_size (by repeat (first | (with_reducible first | exact HB.out | apply below_alloc | apply pw_below_drewN | apply below_drew1) | exact HB.out))) : w.heap.size ≤ gb327)); have n5_ := Aside0.mk ((by rw [hg]; exact (below_size (by repeat (first | (with_reducible first | exact HB.out | apply below_alloc | apply pw_below_drewN | apply below_drew1) | exact HB.out))) : w.heap.size ≤ gb327)); clear HO_3; clear HO_35; clear HB; have HO_3 := n0_; have HO_35 := n1_; have HB := n2_; have BK327 := n3_; have GW327 := n4_; have GE327 := n5_; clear n0_ n1_ n2_ n3_ n4_ n5_; clear hb hbox hg; have hcz16_0 : w15.cell? ⟨gb327, 0, none⟩ = some (.int .i64 0) := (blk_cell BK327.out 0).trans rfl; have hcz16_1 : w15.cell? ⟨gb327, 1, none⟩ = some (.string (⟨#[]⟩ : ByteArray)) := (blk_cell BK327.out 1).trans rfl; have hcz16_2 : w15.cell? ⟨gb327, 2, none⟩ = some (.int .i64 0) := (blk_cell BK327.out 2).trans rfl; have hfz16_0 := blk_frozen BK327.out 0; have hfz16_1 := blk_frozen BK327.out 1; have hfz16_2 := blk_frozen BK327.out 2)))
                  (try simp only [Act.put, List.setIfInBounds_toArray, List.set_cons_zero, List.set_cons_succ])
                  go_cut [63] (fun v63 wc => ∃ (kq : Nat) (x63_13 : Bool), v63 = .bool x63_13 ∧ Aside0 (modcertlaw03_LexerOffsets.j1 kq a0 t321 t322 t321 (t321.length : Int) x37_1 x63_13 ((rd_T36 t321 x37_1).f0) ((rd_T36 t321 x37_1).f1) ((rd_T36 t321 x37_1).f2) = some r) ∧ Aside0 (kq ≤ k1) ∧ Aside0 (Kd.R k36 36 wc w.heap.size (fun k_ => k_ ≠ gb327) (.slice (some ad326) t321.length co10) t321) ∧ Aside0 (Kd.R k36 36 wc w.heap.size (fun k_ => k_ ≠ gb327) (.slice (some ad326) t321.length co10) t321) ∧ Aside0 (wc.heap[gb327]? = some (.cells #[.int .i64 ((rd_T36 t321 x37_1).f0), .string ((rd_T36 t321 x37_1).f1), .int .i64 ((rd_T36 t321 x37_1).f2)] 36 (0, 0))) ∧ Aside0 (Below w.heap.size w wc))
                  case first =>
                    have H := HC14.out
                    clear HC14
                    by_cases c17 : ((rd_T36 t321 x37_1).f2) < x6_1
                    · rw [if_pos c17] at H
                      have c17b0 : decide (((rd_T36 t321 x37_1).f2) < x6_1) = true := decide_eq_true c17
                      clear c17
                      (first | rw [c17b0] | (simp only [i64_w, i32_w]; rw [c17b0]) | skip)
                      have H' := Aside0.mk H
                      clear H
                      have hcz18_0 : w15.cell? ⟨gb327, 0, none⟩ = some (.int .i64 0) := (blk_cell BK327.out 0).trans rfl
                      have hcz18_1 : w15.cell? ⟨gb327, 1, none⟩ = some (.string (⟨#[]⟩ : ByteArray)) := (blk_cell BK327.out 1).trans rfl
                      have hcz18_2 : w15.cell? ⟨gb327, 2, none⟩ = some (.int .i64 0) := (blk_cell BK327.out 2).trans rfl
                      have hfz18_0 := blk_frozen BK327.out 0
                      have hfz18_1 := blk_frozen BK327.out 1
                      have hfz18_2 := blk_frozen BK327.out 2
                      go_wp2
                      repeat (go_quiet (fail); try go_wp2)
                      go_meet
                      case rel => exact ⟨_, (true), (by first | rfl | (simp; done) | (simp [*]; done)), H', ⟨by have := HK1.out; first | omega | exact Nat.le_refl _⟩, ⟨by (with_reducible repeat (first | apply Kd.R_alloc | apply Kd.R_drewN | apply Kd.R_drew)); exact Kd.R_mono (Kd.R_far (p := ⟨gb327, 2, none⟩) (Kd.R_far (p := ⟨gb327, 1, none⟩) (Kd.R_far (p := ⟨gb327, 0, none⟩) (Kd.R_mono HO_3.out (fun k_ hk => (⟨hk, hk.2⟩ : _ ∧ k_ ≠ gb327))) (fun _ hk => hk.2) (.int .i64 ((rd_T36 t321 x37_1).f0))) (fun _ hk => hk.2) (.string ((rd_T36 t321 x37_1).f1))) (fun _ hk => hk.2) (.int .i64 ((rd_T36 t321 x37_1).f2))) (fun _ hk => hk.1.2)⟩, ⟨by (with_reducible repeat (first | apply Kd.R_alloc | apply Kd.R_drewN | apply Kd.R_drew)); exact Kd.R_mono (Kd.R_far (p := ⟨gb327, 2, none⟩) (Kd.R_far (p := ⟨gb327, 1, none⟩) (Kd.R_far (p := ⟨gb327, 0, none⟩) (Kd.R_mono HO_35.out (fun k_ hk => (⟨hk, hk.2⟩ : _ ∧ k_ ≠ gb327))) (fun _ hk => hk.2) (.int .i64 ((rd_T36 t321 x37_1).f0))) (fun _ hk => hk.2) (.string ((rd_T36 t321 x37_1).f1))) (fun _ hk => hk.2) (.int .i64 ((rd_T36 t321 x37_1).f2))) (fun _ hk => hk.1.2)⟩, ⟨by (with_reducible repeat (first | refine blk_drewN ?_ _ | refine blk_drew ?_ | refine blk_alloc ?_ _)); refine blk_put (cs := #[.int .i64 ((rd_T36 t321 x37_1).f0), .string ((rd_T36 t321 x37_1).f1), .int .i64 0]) ?_ 2 _ rfl; (with_reducible repeat (first | refine blk_drewN ?_ _ | refine blk_drew ?_ | refine blk_alloc ?_ _)); refine blk_put (cs := #[.int .i64 ((rd_T36 t321 x37_1).f0), .string (⟨#[]⟩ : ByteArray), .int .i64 0]) ?_ 1 _ rfl; (with_reducible repeat (first | refine blk_drewN ?_ _ | refine blk_drew ?_ | refine blk_alloc ?_ _)); refine blk_put (cs := #[.int .i64 0, .string (⟨#[]⟩ : ByteArray), .int .i64 0]) ?_ 0 _ rfl; (with_reducible repeat (first | refine blk_drewN ?_ _ | refine blk_drew ?_ | refine blk_alloc ?_ _)); exact BK327.out⟩, ⟨by repeat (first | (with_reducible first | exact HB.out | apply below_alloc | apply pw_below_drewN | apply below_drew1 | refine below_set ?_ GE327.out) | exact HB.out)⟩⟩
                    · rw [if_neg c17] at H
                      have c17b0 : decide (((rd_T36 t321 x37_1).f2) < x6_1) = false := decide_eq_false c17
                      clear c17
                      (first | rw [c17b0] | (simp only [i64_w, i32_w]; rw [c17b0]) | skip)
                      by_cases c19 : ((rd_T36 t321 x37_1).f2) > (a0.size : Int)
                      · rw [if_pos c19] at H
                        have c19b0 : decide ((a0.size : Int) < ((rd_T36 t321 x37_1).f2)) = true := decide_eq_true c19
                        clear c19
                        have H' := Aside0.mk H
                        clear H
                        have hcz20_0 : w15.cell? ⟨gb327, 0, none⟩ = some (.int .i64 0) := (blk_cell BK327.out 0).trans rfl
                        have hcz20_1 : w15.cell? ⟨gb327, 1, none⟩ = some (.string (⟨#[]⟩ : ByteArray)) := (blk_cell BK327.out 1).trans rfl
                        have hcz20_2 : w15.cell? ⟨gb327, 2, none⟩ = some (.int .i64 0) := (blk_cell BK327.out 2).trans rfl
                        have hfz20_0 := blk_frozen BK327.out 0
                        have hfz20_1 := blk_frozen BK327.out 1
                        have hfz20_2 := blk_frozen BK327.out 2
                        go_wp2
                        repeat (go_quiet (fail); try go_wp2)
                        go_meet
                        case rel => exact ⟨_, (true), (by first | rfl | (simp; done) | (simp [*]; done)), H', ⟨by have := HK1.out; first | omega | exact Nat.le_refl _⟩, ⟨by (with_reducible repeat (first | apply Kd.R_alloc | apply Kd.R_drewN | apply Kd.R_drew)); exact Kd.R_mono (Kd.R_far (p := ⟨gb327, 2, none⟩) (Kd.R_far (p := ⟨gb327, 1, none⟩) (Kd.R_far (p := ⟨gb327, 0, none⟩) (Kd.R_mono HO_3.out (fun k_ hk => (⟨hk, hk.2⟩ : _ ∧ k_ ≠ gb327))) (fun _ hk => hk.2) (.int .i64 ((rd_T36 t321 x37_1).f0))) (fun _ hk => hk.2) (.string ((rd_T36 t321 x37_1).f1))) (fun _ hk => hk.2) (.int .i64 ((rd_T36 t321 x37_1).f2))) (fun _ hk => hk.1.2)⟩, ⟨by (with_reducible repeat (first | apply Kd.R_alloc | apply Kd.R_drewN | apply Kd.R_drew)); exact Kd.R_mono (Kd.R_far (p := ⟨gb327, 2, none⟩) (Kd.R_far (p := ⟨gb327, 1, none⟩) (Kd.R_far (p := ⟨gb327, 0, none⟩) (Kd.R_mono HO_35.out (fun k_ hk => (⟨hk, hk.2⟩ : _ ∧ k_ ≠ gb327))) (fun _ hk => hk.2) (.int .i64 ((rd_T36 t321 x37_1).f0))) (fun _ hk => hk.2) (.string ((rd_T36 t321 x37_1).f1))) (fun _ hk => hk.2) (.int .i64 ((rd_T36 t321 x37_1).f2))) (fun _ hk => hk.1.2)⟩, ⟨by (with_reducible repeat (first | refine blk_drewN ?_ _ | refine blk_drew ?_ | refine blk_alloc ?_ _)); refine blk_put (cs := #[.int .i64 ((rd_T36 t321 x37_1).f0), .string ((rd_T36 t321 x37_1).f1), .int .i64 0]) ?_ 2 _ rfl; (with_reducible repeat (first | refine blk_drewN ?_ _ | refine blk_drew ?_ | refine blk_alloc ?_ _)); refine blk_put (cs := #[.int .i64 ((rd_T36 t321 x37_1).f0), .string (⟨#[]⟩ : ByteArray), .int .i64 0]) ?_ 1 _ rfl; (with_reducible repeat (first | refine blk_drewN ?_ _ | refine blk_drew ?_ | refine blk_alloc ?_ _)); refine blk_put (cs := #[.int .i64 0, .string (⟨#[]⟩ : ByteArray), .int .i64 0]) ?_ 0 _ rfl; (with_reducible repeat (first | refine blk_drewN ?_ _ | refine blk_drew ?_ | refine blk_alloc ?_ _)); exact BK327.out⟩, ⟨by repeat (first | (with_reducible first | exact HB.out | apply below_alloc | apply pw_below_drewN | apply below_drew1 | refine below_set ?_ GE327.out) | exact HB.out)⟩⟩
                      · rw [if_neg c19] at H
                        have c19b0 : decide ((a0.size : Int) < ((rd_T36 t321 x37_1).f2)) = false := decide_eq_false c19
                        clear c19
                        have H' := Aside0.mk H
                        clear H
                        have hcz21_0 : w15.cell? ⟨gb327, 0, none⟩ = some (.int .i64 0) := (blk_cell BK327.out 0).trans rfl
                        have hcz21_1 : w15.cell? ⟨gb327, 1, none⟩ = some (.string (⟨#[]⟩ : ByteArray)) := (blk_cell BK327.out 1).trans rfl
                        have hcz21_2 : w15.cell? ⟨gb327, 2, none⟩ = some (.int .i64 0) := (blk_cell BK327.out 2).trans rfl
                        have hfz21_0 := blk_frozen BK327.out 0
                        have hfz21_1 := blk_frozen BK327.out 1
                        have hfz21_2 := blk_frozen BK327.out 2
                        go_wp2
                        repeat (go_quiet (fail); try go_wp2)
                        go_meet
                        case rel => exact ⟨_, (((((rd_T36 t321 x37_1).f0) == 0) != (x37_1 == (wrap64 ((t321.length : Int) - 1))))), (by first | rfl | (simp; done) | (simp [*]; done)), H', ⟨by have := HK1.out; first | omega | exact Nat.le_refl _⟩, ⟨by (with_reducible repeat (first | apply Kd.R_alloc | apply Kd.R_drewN | apply Kd.R_drew)); exact Kd.R_mono (Kd.R_far (p := ⟨gb327, 2, none⟩) (Kd.R_far (p := ⟨gb327, 1, none⟩) (Kd.R_far (p := ⟨gb327, 0, none⟩) (Kd.R_mono HO_3.out (fun k_ hk => (⟨hk, hk.2⟩ : _ ∧ k_ ≠ gb327))) (fun _ hk => hk.2) (.int .i64 ((rd_T36 t321 x37_1).f0))) (fun _ hk => hk.2) (.string ((rd_T36 t321 x37_1).f1))) (fun _ hk => hk.2) (.int .i64 ((rd_T36 t321 x37_1).f2))) (fun _ hk => hk.1.2)⟩, ⟨by (with_reducible repeat (first | apply Kd.R_alloc | apply Kd.R_drewN | apply Kd.R_drew)); exact Kd.R_mono (Kd.R_far (p := ⟨gb327, 2, none⟩) (Kd.R_far (p := ⟨gb327, 1, none⟩) (Kd.R_far (p := ⟨gb327, 0, none⟩) (Kd.R_mono HO_35.out (fun k_ hk => (⟨hk, hk.2⟩ : _ ∧ k_ ≠ gb327))) (fun _ hk => hk.2) (.int .i64 ((rd_T36 t321 x37_1).f0))) (fun _ hk => hk.2) (.string ((rd_T36 t321 x37_1).f1))) (fun _ hk => hk.2) (.int .i64 ((rd_T36 t321 x37_1).f2))) (fun _ hk => hk.1.2)⟩, ⟨by (with_reducible repeat (first | refine blk_drewN ?_ _ | refine blk_drew ?_ | refine blk_alloc ?_ _)); refine blk_put (cs := #[.int .i64 ((rd_T36 t321 x37_1).f0), .string ((rd_T36 t321 x37_1).f1), .int .i64 0]) ?_ 2 _ rfl; (with_reducible repeat (first | refine blk_drewN ?_ _ | refine blk_drew ?_ | refine blk_alloc ?_ _)); refine blk_put (cs := #[.int .i64 ((rd_T36 t321 x37_1).f0), .string (⟨#[]⟩ : ByteArray), .int .i64 0]) ?_ 1 _ rfl; (with_reducible repeat (first | refine blk_drewN ?_ _ | refine blk_drew ?_ | refine blk_alloc ?_ _)); refine blk_put (cs := #[.int .i64 0, .string (⟨#[]⟩ : ByteArray), .int .i64 0]) ?_ 0 _ rfl; (with_reducible repeat (first | refine blk_drewN ?_ _ | refine blk_drew ?_ | refine blk_alloc ?_ _)); exact BK327.out⟩, ⟨by repeat (first | (with_reducible first | exact HB.out | apply below_alloc | apply pw_below_drewN | apply below_drew1 | refine below_set ?_ GE327.out) | exact HB.out)⟩⟩
                  case rest =>
                    clear HC14
                    try clear c1
                    try clear p2
                    try clear c3
                    try clear p3
                    try clear q3
                    try clear hx3
                    try clear c4
                    try clear c4b0
                    try clear c4b1
                    try clear p6
                    try clear c7
                    try clear c7b0
                    try clear c7b1
                    try clear c8
                    try clear c11
                    try clear c11b0
                    try clear c12
                    try clear c12b0
                    try clear c13
                    try clear c13b0
                    try clear c17
                    try clear c17b0
                    try clear c19
                    try clear c19b0
                    try clear hcz16_0
                    try clear hcz16_1
                    try clear hcz16_2
                    try clear hcz18_0
                    try clear hcz18_1
                    try clear hcz18_2
                    try clear hcz20_0
                    try clear hcz20_1
                    try clear hcz20_2
                    try clear hcz21_0
                    try clear hcz21_1
                    try clear hcz21_2
                    try clear hfz16_0
                    try clear hfz16_1
                    try clear hfz16_2
                    try clear hfz18_0
                    try clear hfz18_1
                    try clear hfz18_2
                    try clear hfz20_0
                    try clear hfz20_1
                    try clear hfz20_2
                    try clear hfz21_0
                    try clear hfz21_1
                    try clear hfz21_2
                    try clear hx326_0
                    try clear hx326_1
                    try clear hx326_2
                    try clear p2
                    try clear p326
                    try clear q326
                    obtain ⟨kq, x63_13, rfl, HA, HJ13, HO_3, HO_35, BK327, HB⟩ := hcut
                    cases kq with
                    | zero => exact absurd HA.out (by simp [modcertlaw03_LexerOffsets.j1])
                    | succ kj13 =>
                      have H := HA.out
                      clear HA
                      simp only [modcertlaw03_LexerOffsets.j1] at H
                      by_cases c22 : x63_13 = true
                      · subst c22
                        have H1 : (some false) = some r := by rw [if_pos rfl] at H; exact H
                        clear H
                        have H := H1
                        clear H1
                        obtain rfl := Option.some.inj H
                        go_wp2
                        repeat (go_quiet (fail); try go_wp2)
                        go_ret
                        exact ⟨by first | rfl | (simp [errW_none, errW_some] <;> rfl) | (simp [*, errW_none, errW_some] <;> rfl), by repeat (first | (with_reducible first | exact HB.out | apply below_alloc | apply pw_below_drewN | apply below_drew1 | refine below_set ?_ GE327.out) | exact HB.out)⟩
                      · replace c22 := Bool.eq_false_iff.mpr c22
                        subst c22
                        have H1 : (if ((rd_T36 t321 x37_1).f0) = 0 then (if ((rd_T36 t321 x37_1).f2) = (a0.size : Int) then (if ((rd_T36 t321 x37_1).f1).toList = ([] : List UInt8) then (some (t322 == 0)) else (some false)) else (some false)) else (if ((rd_T36 t321 x37_1).f0) = 4 then (if 0 ≤ ((rd_T36 t321 x37_1).f2) then (if ((rd_T36 t321 x37_1).f2) ≤ (a0.size : Int) then ((strings_HasPrefix.f (a0.extract (((rd_T36 t321 x37_1).f2) : Int).toNat a0.size) (⟨#[34]⟩ : ByteArray)).bind fun t328 => (if t328 = true then (modcertlaw03_LexerOffsets.l0 kj13 a0 t321 t322 (wrap64 ((wrap64 (((rd_T36 t321 x37_1).f2) + (((rd_T36 t321 x37_1).f1).size : Int))) + 2)) t321 (t321.length : Int) (wrap64 (x37_1 + 1))) else (some false))) else (none)) else (none)) else (if ((rd_T36 t321 x37_1).f1).toList = ([] : List UInt8) then (some false) else (if 0 ≤ ((rd_T36 t321 x37_1).f2) then (if ((rd_T36 t321 x37_1).f2) ≤ (a0.size : Int) then ((strings_HasPrefix.f (a0.extract (((rd_T36 t321 x37_1).f2) : Int).toNat a0.size) ((rd_T36 t321 x37_1).f1)).bind fun t329 => (if t329 = true then (modcertlaw03_LexerOffsets.l0 kj13 a0 t321 t322 (wrap64 (((rd_T36 t321 x37_1).f2) + (((rd_T36 t321 x37_1).f1).size : Int))) t321 (t321.length : Int) (wrap64 (x37_1 + 1))) else (some false))) else (none)) else (none))))) = some r := by rw [if_neg (show ¬ (false = true) by decide)] at H; exact H
                        clear H
                        have H := H1
                        clear H1
                        by_cases c23 : ((rd_T36 t321 x37_1).f0) = 0
                        · rw [if_pos c23] at H
                          have c23b0 : (((rd_T36 t321 x37_1).f0) == 0) = true := beq_iff_eq.mpr c23
                          have c23b1 : (((rd_T36 t321 x37_1).f0) != 0) = false := bne_eq_false_iff_eq.mpr c23
                          clear c23
                          by_cases c24 : ((rd_T36 t321 x37_1).f2) = (a0.size : Int)
                          · rw [if_pos c24] at H
                            have c24b0 : (((rd_T36 t321 x37_1).f2) == (a0.size : Int)) = true := beq_iff_eq.mpr c24
                            have c24b1 : (((rd_T36 t321 x37_1).f2) != (a0.size : Int)) = false := bne_eq_false_iff_eq.mpr c24
                            clear c24
                            by_cases c25 : ((rd_T36 t321 x37_1).f1).toList = ([] : List UInt8)
                            · rw [if_pos c25] at H
                              have c25b0 : (((rd_T36 t321 x37_1).f1).toList == ([] : List UInt8)) = true := beq_iff_eq.mpr c25
                              have c25b1 : (((rd_T36 t321 x37_1).f1).toList != ([] : List UInt8)) = false := bne_eq_false_iff_eq.mpr c25
                              clear c25
                              obtain rfl := Option.some.inj H
                              have hcz26_0 : wc.cell? ⟨gb327, 0, none⟩ = some (.int .i64 ((rd_T36 t321 x37_1).f0)) := (blk_cell BK327.out 0).trans rfl
                              have hcz26_1 : wc.cell? ⟨gb327, 1, none⟩ = some (.string ((rd_T36 t321 x37_1).f1)) := (blk_cell BK327.out 1).trans rfl
                              have hcz26_2 : wc.cell? ⟨gb327, 2, none⟩ = some (.int .i64 ((rd_T36 t321 x37_1).f2)) := (blk_cell BK327.out 2).trans rfl
                              have hfz26_0 := blk_frozen BK327.out 0
                              have hfz26_1 := blk_frozen BK327.out 1
                              have hfz26_2 := blk_frozen BK327.out 2
                              go_wp2
                              repeat (go_quiet (fail); try go_wp2)
                              go_ret
                              exact ⟨by first | rfl | (simp [errW_none, errW_some] <;> rfl) | (simp [*, errW_none, errW_some] <;> rfl), by repeat (first | (with_reducible first | exact HB.out | apply below_alloc | apply pw_below_drewN | apply below_drew1 | refine below_set ?_ GE327.out) | exact HB.out)⟩
                            · rw [if_neg c25] at H
                              have c25b0 : (((rd_T36 t321 x37_1).f1).toList == ([] : List UInt8)) = false := beq_eq_false_iff_ne.mpr c25
                              have c25b1 : (((rd_T36 t321 x37_1).f1).toList != ([] : List UInt8)) = true := bne_iff_ne.mpr c25
                              obtain rfl := Option.some.inj H
                              have hcz27_0 : wc.cell? ⟨gb327, 0, none⟩ = some (.int .i64 ((rd_T36 t321 x37_1).f0)) := (blk_cell BK327.out 0).trans rfl
                              have hcz27_1 : wc.cell? ⟨gb327, 1, none⟩ = some (.string ((rd_T36 t321 x37_1).f1)) := (blk_cell BK327.out 1).trans rfl
                              have hcz27_2 : wc.cell? ⟨gb327, 2, none⟩ = some (.int .i64 ((rd_T36 t321 x37_1).f2)) := (blk_cell BK327.out 2).trans rfl
                              have hfz27_0 := blk_frozen BK327.out 0
                              have hfz27_1 := blk_frozen BK327.out 1
                              have hfz27_2 := blk_frozen BK327.out 2
                              go_wp2
                              repeat (go_quiet (fail); try go_wp2)
                              go_ret
                              exact ⟨by first | rfl | (simp [errW_none, errW_some] <;> rfl) | (simp [*, errW_none, errW_some] <;> rfl), by repeat (first | (with_reducible first | exact HB.out | apply below_alloc | apply pw_below_drewN | apply below_drew1 | refine below_set ?_ GE327.out) | exact HB.out)⟩
                          · rw [if_neg c24] at H
                            have c24b0 : (((rd_T36 t321 x37_1).f2) == (a0.size : Int)) = false := beq_eq_false_iff_ne.mpr c24
                            have c24b1 : (((rd_T36 t321 x37_1).f2) != (a0.size : Int)) = true := bne_iff_ne.mpr c24
                            obtain rfl := Option.some.inj H
                            have hcz28_0 : wc.cell? ⟨gb327, 0, none⟩ = some (.int .i64 ((rd_T36 t321 x37_1).f0)) := (blk_cell BK327.out 0).trans rfl
                            have hcz28_1 : wc.cell? ⟨gb327, 1, none⟩ = some (.string ((rd_T36 t321 x37_1).f1)) := (blk_cell BK327.out 1).trans rfl
                            have hcz28_2 : wc.cell? ⟨gb327, 2, none⟩ = some (.int .i64 ((rd_T36 t321 x37_1).f2)) := (blk_cell BK327.out 2).trans rfl
                            have hfz28_0 := blk_frozen BK327.out 0
                            have hfz28_1 := blk_frozen BK327.out 1
                            have hfz28_2 := blk_frozen BK327.out 2
                            go_wp2
                            repeat (go_quiet (fail); try go_wp2)
                            go_ret
                            exact ⟨by first | rfl | (simp [errW_none, errW_some] <;> rfl) | (simp [*, errW_none, errW_some] <;> rfl), by repeat (first | (with_reducible first | exact HB.out | apply below_alloc | apply pw_below_drewN | apply below_drew1 | refine below_set ?_ GE327.out) | exact HB.out)⟩
                        · rw [if_neg c23] at H
                          have c23b0 : (((rd_T36 t321 x37_1).f0) == 0) = false := beq_eq_false_iff_ne.mpr c23
                          have c23b1 : (((rd_T36 t321 x37_1).f0) != 0) = true := bne_iff_ne.mpr c23
                          by_cases c29 : ((rd_T36 t321 x37_1).f0) = 4
                          · rw [if_pos c29] at H
                            have c29b0 : (((rd_T36 t321 x37_1).f0) == 4) = true := beq_iff_eq.mpr c29
                            have c29b1 : (((rd_T36 t321 x37_1).f0) != 4) = false := bne_eq_false_iff_eq.mpr c29
                            clear c29
                            by_cases c30 : 0 ≤ ((rd_T36 t321 x37_1).f2)
                            · rw [if_pos c30] at H
                              have c30b0 := eq_true c30
                              have c30b1 : decide (0 ≤ ((rd_T36 t321 x37_1).f2)) = true := decide_eq_true c30
                              clear c30
                              by_cases c31 : ((rd_T36 t321 x37_1).f2) ≤ (a0.size : Int)
                              · rw [if_pos c31] at H
                                have c31b0 := eq_true c31
                                have c31b1 : decide (((rd_T36 t321 x37_1).f2) ≤ (a0.size : Int)) = true := decide_eq_true c31
                                clear c31
                                replace H := Option.bind_eq_some_iff.mp H
                                obtain ⟨t328, A320, H⟩ := H
                                replace H : (if t328 = true then (modcertlaw03_LexerOffsets.l0 kj13 a0 t321 t322 (wrap64 ((wrap64 (((rd_T36 t321 x37_1).f2) + (((rd_T36 t321 x37_1).f1).size : Int))) + 2)) t321 (t321.length : Int) (wrap64 (x37_1 + 1))) else (some false)) = some r := H
                                have A32 := Aside0.mk A320
                                clear A320
                                by_cases c33 : t328 = true
                                · subst c33
                                  have H1 : (modcertlaw03_LexerOffsets.l0 kj13 a0 t321 t322 (wrap64 ((wrap64 (((rd_T36 t321 x37_1).f2) + (((rd_T36 t321 x37_1).f1).size : Int))) + 2)) t321 (t321.length : Int) (wrap64 (x37_1 + 1))) = some r := by rw [if_pos rfl] at H; exact H
                                  clear H
                                  have H := H1
                                  clear H1
                                  have H' := Aside0.mk H
                                  clear H
                                  have hcz34_0 : wc.cell? ⟨gb327, 0, none⟩ = some (.int .i64 ((rd_T36 t321 x37_1).f0)) := (blk_cell BK327.out 0).trans rfl
                                  have hcz34_1 : wc.cell? ⟨gb327, 1, none⟩ = some (.string ((rd_T36 t321 x37_1).f1)) := (blk_cell BK327.out 1).trans rfl
                                  have hcz34_2 : wc.cell? ⟨gb327, 2, none⟩ = some (.int .i64 ((rd_T36 t321 x37_1).f2)) := (blk_cell BK327.out 2).trans rfl
                                  have hfz34_0 := blk_frozen BK327.out 0
                                  have hfz34_1 := blk_frozen BK327.out 1
                                  have hfz34_2 := blk_frozen BK327.out 2
                                  go_wp2_with (first | (go_at_call 30; (with_reducible refine (strings_HasPrefix.calls (a0.extract (((rd_T36 t321 x37_1).f2) : Int).toNat a0.size) (⟨#[34]⟩ : ByteArray) true _ A32.out).mono ?_); rintro e w' ⟨rfl, ⟨nd, rfl⟩⟩; (try first | exact ⟨rfl, _, World.drewN_drewN _ _ _⟩ | exact ⟨rfl, _, Eq.trans (World.drewN_drewN _ _ _) (congrArg (World.drewN _) (Nat.add_assoc _ _ _))⟩)))
                                  repeat (go_quiet (first | (go_at_call 30; (with_reducible refine (strings_HasPrefix.calls (a0.extract (((rd_T36 t321 x37_1).f2) : Int).toNat a0.size) (⟨#[34]⟩ : ByteArray) true _ A32.out).mono ?_); rintro e w' ⟨rfl, ⟨nd, rfl⟩⟩; (try first | exact ⟨rfl, _, World.drewN_drewN _ _ _⟩ | exact ⟨rfl, _, Eq.trans (World.drewN_drewN _ _ _) (congrArg (World.drewN _) (Nat.add_assoc _ _ _))⟩))); try go_wp2_with (first | (go_at_call 30; (with_reducible refine (strings_HasPrefix.calls (a0.extract (((rd_T36 t321 x37_1).f2) : Int).toNat a0.size) (⟨#[34]⟩ : ByteArray) true _ A32.out).mono ?_); rintro e w' ⟨rfl, ⟨nd, rfl⟩⟩; (try first | exact ⟨rfl, _, World.drewN_drewN _ _ _⟩ | exact ⟨rfl, _, Eq.trans (World.drewN_drewN _ _ _) (congrArg (World.drewN _) (Nat.add_assoc _ _ _))⟩))))
                                  go_roundg kj13
                                  case measure => have := HK1.out; have := HJ13.out; omega
                                  case rel => exact ⟨(wrap64 ((wrap64 (((rd_T36 t321 x37_1).f2) + (((rd_T36 t321 x37_1).f1).size : Int))) + 2)), (wrap64 (x37_1 + 1)), (by first | rfl | (simp; done) | (simp [*]; done)), (by first | rfl | (simp; done) | (simp [*]; done)), H', ⟨by have := HK1.out; have := HJ13.out; omega⟩, ⟨by (with_reducible repeat (first | apply Kd.R_alloc | apply Kd.R_drewN | apply Kd.R_drew)); exact Kd.R_mono HO_3.out (fun _ hk => trivial)⟩, ⟨by (with_reducible repeat (first | apply Kd.R_alloc | apply Kd.R_drewN | apply Kd.R_drew)); exact Kd.R_mono HO_35.out (fun _ hk => trivial)⟩, ⟨by repeat (first | (with_reducible first | exact HB.out | apply below_alloc | apply pw_below_drewN | apply below_drew1 | refine below_set ?_ GE327.out) | exact HB.out)⟩⟩
                                · replace c33 := Bool.eq_false_iff.mpr c33
                                  subst c33
                                  have H1 : (some false) = some r := by rw [if_neg (show ¬ (false = true) by decide)] at H; exact H
                                  clear H
                                  have H := H1
                                  clear H1
                                  obtain rfl := Option.some.inj H
                                  have hcz35_0 : wc.cell? ⟨gb327, 0, none⟩ = some (.int .i64 ((rd_T36 t321 x37_1).f0)) := (blk_cell BK327.out 0).trans rfl
                                  have hcz35_1 : wc.cell? ⟨gb327, 1, none⟩ = some (.string ((rd_T36 t321 x37_1).f1)) := (blk_cell BK327.out 1).trans rfl
                                  have hcz35_2 : wc.cell? ⟨gb327, 2, none⟩ = some (.int .i64 ((rd_T36 t321 x37_1).f2)) := (blk_cell BK327.out 2).trans rfl
                                  have hfz35_0 := blk_frozen BK327.out 0
                                  have hfz35_1 := blk_frozen BK327.out 1
                                  have hfz35_2 := blk_frozen BK327.out 2
                                  go_wp2_with (first | (go_at_call 30; (with_reducible refine (strings_HasPrefix.calls (a0.extract (((rd_T36 t321 x37_1).f2) : Int).toNat a0.size) (⟨#[34]⟩ : ByteArray) false _ A32.out).mono ?_); rintro e w' ⟨rfl, ⟨nd, rfl⟩⟩; (try first | exact ⟨rfl, _, World.drewN_drewN _ _ _⟩ | exact ⟨rfl, _, Eq.trans (World.drewN_drewN _ _ _) (congrArg (World.drewN _) (Nat.add_assoc _ _ _))⟩)))
                                  repeat (go_quiet (first | (go_at_call 30; (with_reducible refine (strings_HasPrefix.calls (a0.extract (((rd_T36 t321 x37_1).f2) : Int).toNat a0.size) (⟨#[34]⟩ : ByteArray) false _ A32.out).mono ?_); rintro e w' ⟨rfl, ⟨nd, rfl⟩⟩; (try first | exact ⟨rfl, _, World.drewN_drewN _ _ _⟩ | exact ⟨rfl, _, Eq.trans (World.drewN_drewN _ _ _) (congrArg (World.drewN _) (Nat.add_assoc _ _ _))⟩))); try go_wp2_with (first | (go_at_call 30; (with_reducible refine (strings_HasPrefix.calls (a0.extract (((rd_T36 t321 x37_1).f2) : Int).toNat a0.size) (⟨#[34]⟩ : ByteArray) false _ A32.out).mono ?_); rintro e w' ⟨rfl, ⟨nd, rfl⟩⟩; (try first | exact ⟨rfl, _, World.drewN_drewN _ _ _⟩ | exact ⟨rfl, _, Eq.trans (World.drewN_drewN _ _ _) (congrArg (World.drewN _) (Nat.add_assoc _ _ _))⟩))))
                                  go_ret
                                  exact ⟨by first | rfl | (simp [errW_none, errW_some] <;> rfl) | (simp [*, errW_none, errW_some] <;> rfl), by repeat (first | (with_reducible first | exact HB.out | apply below_alloc | apply pw_below_drewN | apply below_drew1 | refine below_set ?_ GE327.out) | exact HB.out)⟩
                              · rw [if_neg c31] at H
                                exact absurd H (by simp)
                            · rw [if_neg c30] at H
                              exact absurd H (by simp)
                          · rw [if_neg c29] at H
                            have c29b0 : (((rd_T36 t321 x37_1).f0) == 4) = false := beq_eq_false_iff_ne.mpr c29
                            have c29b1 : (((rd_T36 t321 x37_1).f0) != 4) = true := bne_iff_ne.mpr c29
                            by_cases c36 : ((rd_T36 t321 x37_1).f1).toList = ([] : List UInt8)
                            · rw [if_pos c36] at H
                              have c36b0 : (((rd_T36 t321 x37_1).f1).toList == ([] : List UInt8)) = true := beq_iff_eq.mpr c36
                              have c36b1 : (((rd_T36 t321 x37_1).f1).toList != ([] : List UInt8)) = false := bne_eq_false_iff_eq.mpr c36
                              clear c36
                              obtain rfl := Option.some.inj H
                              have hcz37_0 : wc.cell? ⟨gb327, 0, none⟩ = some (.int .i64 ((rd_T36 t321 x37_1).f0)) := (blk_cell BK327.out 0).trans rfl
                              have hcz37_1 : wc.cell? ⟨gb327, 1, none⟩ = some (.string ((rd_T36 t321 x37_1).f1)) := (blk_cell BK327.out 1).trans rfl
                              have hcz37_2 : wc.cell? ⟨gb327, 2, none⟩ = some (.int .i64 ((rd_T36 t321 x37_1).f2)) := (blk_cell BK327.out 2).trans rfl
                              have hfz37_0 := blk_frozen BK327.out 0
                              have hfz37_1 := blk_frozen BK327.out 1
                              have hfz37_2 := blk_frozen BK327.out 2
                              go_wp2
                              repeat (go_quiet (fail); try go_wp2)
                              go_ret
                              exact ⟨by first | rfl | (simp [errW_none, errW_some] <;> rfl) | (simp [*, errW_none, errW_some] <;> rfl), by repeat (first | (with_reducible first | exact HB.out | apply below_alloc | apply pw_below_drewN | apply below_drew1 | refine below_set ?_ GE327.out) | exact HB.out)⟩
                            · rw [if_neg c36] at H
                              have c36b0 : (((rd_T36 t321 x37_1).f1).toList == ([] : List UInt8)) = false := beq_eq_false_iff_ne.mpr c36
                              have c36b1 : (((rd_T36 t321 x37_1).f1).toList != ([] : List UInt8)) = true := bne_iff_ne.mpr c36
                              by_cases c38 : 0 ≤ ((rd_T36 t321 x37_1).f2)
                              · rw [if_pos c38] at H
                                have c38b0 := eq_true c38
                                have c38b1 : decide (0 ≤ ((rd_T36 t321 x37_1).f2)) = true := decide_eq_true c38
                                clear c38
                                by_cases c39 : ((rd_T36 t321 x37_1).f2) ≤ (a0.size : Int)
                                · rw [if_pos c39] at H
                                  have c39b0 := eq_true c39
                                  have c39b1 : decide (((rd_T36 t321 x37_1).f2) ≤ (a0.size : Int)) = true := decide_eq_true c39
                                  clear c39
                                  replace H := Option.bind_eq_some_iff.mp H
                                  obtain ⟨t329, A400, H⟩ := H
                                  replace H : (if t329 = true then (modcertlaw03_LexerOffsets.l0 kj13 a0 t321 t322 (wrap64 (((rd_T36 t321 x37_1).f2) + (((rd_T36 t321 x37_1).f1).size : Int))) t321 (t321.length : Int) (wrap64 (x37_1 + 1))) else (some false)) = some r := H
                                  have A40 := Aside0.mk A400
                                  clear A400
                                  by_cases c41 : t329 = true
                                  · subst c41
                                    have H1 : (modcertlaw03_LexerOffsets.l0 kj13 a0 t321 t322 (wrap64 (((rd_T36 t321 x37_1).f2) + (((rd_T36 t321 x37_1).f1).size : Int))) t321 (t321.length : Int) (wrap64 (x37_1 + 1))) = some r := by rw [if_pos rfl] at H; exact H
                                    clear H
                                    have H := H1
                                    clear H1
                                    have H' := Aside0.mk H
                                    clear H
                                    have hcz42_0 : wc.cell? ⟨gb327, 0, none⟩ = some (.int .i64 ((rd_T36 t321 x37_1).f0)) := (blk_cell BK327.out 0).trans rfl
                                    have hcz42_1 : wc.cell? ⟨gb327, 1, none⟩ = some (.string ((rd_T36 t321 x37_1).f1)) := (blk_cell BK327.out 1).trans rfl
                                    have hcz42_2 : wc.cell? ⟨gb327, 2, none⟩ = some (.int .i64 ((rd_T36 t321 x37_1).f2)) := (blk_cell BK327.out 2).trans rfl
                                    have hfz42_0 := blk_frozen BK327.out 0
                                    have hfz42_1 := blk_frozen BK327.out 1
                                    have hfz42_2 := blk_frozen BK327.out 2
                                    go_wp2_with (first | (go_at_call 30; (with_reducible refine (strings_HasPrefix.calls (a0.extract (((rd_T36 t321 x37_1).f2) : Int).toNat a0.size) ((rd_T36 t321 x37_1).f1) true _ A40.out).mono ?_); rintro e w' ⟨rfl, ⟨nd, rfl⟩⟩; (try first | exact ⟨rfl, _, World.drewN_drewN _ _ _⟩ | exact ⟨rfl, _, Eq.trans (World.drewN_drewN _ _ _) (congrArg (World.drewN _) (Nat.add_assoc _ _ _))⟩)))
                                    repeat (go_quiet (first | (go_at_call 30; (with_reducible refine (strings_HasPrefix.calls (a0.extract (((rd_T36 t321 x37_1).f2) : Int).toNat a0.size) ((rd_T36 t321 x37_1).f1) true _ A40.out).mono ?_); rintro e w' ⟨rfl, ⟨nd, rfl⟩⟩; (try first | exact ⟨rfl, _, World.drewN_drewN _ _ _⟩ | exact ⟨rfl, _, Eq.trans (World.drewN_drewN _ _ _) (congrArg (World.drewN _) (Nat.add_assoc _ _ _))⟩))); try go_wp2_with (first | (go_at_call 30; (with_reducible refine (strings_HasPrefix.calls (a0.extract (((rd_T36 t321 x37_1).f2) : Int).toNat a0.size) ((rd_T36 t321 x37_1).f1) true _ A40.out).mono ?_); rintro e w' ⟨rfl, ⟨nd, rfl⟩⟩; (try first | exact ⟨rfl, _, World.drewN_drewN _ _ _⟩ | exact ⟨rfl, _, Eq.trans (World.drewN_drewN _ _ _) (congrArg (World.drewN _) (Nat.add_assoc _ _ _))⟩))))
                                    go_roundg kj13
                                    case measure => have := HK1.out; have := HJ13.out; omega
                                    case rel => exact ⟨(wrap64 (((rd_T36 t321 x37_1).f2) + (((rd_T36 t321 x37_1).f1).size : Int))), (wrap64 (x37_1 + 1)), (by first | rfl | (simp; done) | (simp [*]; done)), (by first | rfl | (simp; done) | (simp [*]; done)), H', ⟨by have := HK1.out; have := HJ13.out; omega⟩, ⟨by (with_reducible repeat (first | apply Kd.R_alloc | apply Kd.R_drewN | apply Kd.R_drew)); exact Kd.R_mono HO_3.out (fun _ hk => trivial)⟩, ⟨by (with_reducible repeat (first | apply Kd.R_alloc | apply Kd.R_drewN | apply Kd.R_drew)); exact Kd.R_mono HO_35.out (fun _ hk => trivial)⟩, ⟨by repeat (first | (with_reducible first | exact HB.out | apply below_alloc | apply pw_below_drewN | apply below_drew1 | refine below_set ?_ GE327.out) | exact HB.out)⟩⟩
                                  · replace c41 := Bool.eq_false_iff.mpr c41
                                    subst c41
                                    have H1 : (some false) = some r := by rw [if_neg (show ¬ (false = true) by decide)] at H; exact H
                                    clear H
                                    have H := H1
                                    clear H1
                                    obtain rfl := Option.some.inj H
                                    have hcz43_0 : wc.cell? ⟨gb327, 0, none⟩ = some (.int .i64 ((rd_T36 t321 x37_1).f0)) := (blk_cell BK327.out 0).trans rfl
                                    have hcz43_1 : wc.cell? ⟨gb327, 1, none⟩ = some (.string ((rd_T36 t321 x37_1).f1)) := (blk_cell BK327.out 1).trans rfl
                                    have hcz43_2 : wc.cell? ⟨gb327, 2, none⟩ = some (.int .i64 ((rd_T36 t321 x37_1).f2)) := (blk_cell BK327.out 2).trans rfl
                                    have hfz43_0 := blk_frozen BK327.out 0
                                    have hfz43_1 := blk_frozen BK327.out 1
                                    have hfz43_2 := blk_frozen BK327.out 2
                                    go_wp2_with (first | (go_at_call 30; (with_reducible refine (strings_HasPrefix.calls (a0.extract (((rd_T36 t321 x37_1).f2) : Int).toNat a0.size) ((rd_T36 t321 x37_1).f1) false _ A40.out).mono ?_); rintro e w' ⟨rfl, ⟨nd, rfl⟩⟩; (try first | exact ⟨rfl, _, World.drewN_drewN _ _ _⟩ | exact ⟨rfl, _, Eq.trans (World.drewN_drewN _ _ _) (congrArg (World.drewN _) (Nat.add_assoc _ _ _))⟩)))
                                    repeat (go_quiet (first | (go_at_call 30; (with_reducible refine (strings_HasPrefix.calls (a0.extract (((rd_T36 t321 x37_1).f2) : Int).toNat a0.size) ((rd_T36 t321 x37_1).f1) false _ A40.out).mono ?_); rintro e w' ⟨rfl, ⟨nd, rfl⟩⟩; (try first | exact ⟨rfl, _, World.drewN_drewN _ _ _⟩ | exact ⟨rfl, _, Eq.trans (World.drewN_drewN _ _ _) (congrArg (World.drewN _) (Nat.add_assoc _ _ _))⟩))); try go_wp2_with (first | (go_at_call 30; (with_reducible refine (strings_HasPrefix.calls (a0.extract (((rd_T36 t321 x37_1).f2) : Int).toNat a0.size) ((rd_T36 t321 x37_1).f1) false _ A40.out).mono ?_); rintro e w' ⟨rfl, ⟨nd, rfl⟩⟩; (try first | exact ⟨rfl, _, World.drewN_drewN _ _ _⟩ | exact ⟨rfl, _, Eq.trans (World.drewN_drewN _ _ _) (congrArg (World.drewN _) (Nat.add_assoc _ _ _))⟩))))
                                    go_ret
                                    exact ⟨by first | rfl | (simp [errW_none, errW_some] <;> rfl) | (simp [*, errW_none, errW_some] <;> rfl), by repeat (first | (with_reducible first | exact HB.out | apply below_alloc | apply pw_below_drewN | apply below_drew1 | refine below_set ?_ GE327.out) | exact HB.out)⟩
                                · rw [if_neg c39] at H
                                  exact absurd H (by simp)
                              · rw [if_neg c38] at H
                                exact absurd H (by simp)
                · rw [if_neg c13] at H
                  exact absurd H (by simp)
              · rw [if_neg c12] at H
                exact absurd H (by simp)
            · rw [if_neg c11] at H
              have c11b0 : decide (x37_1 < (t321.length : Int)) = false := decide_eq_false c11
              clear c11
              obtain rfl := Option.some.inj H
              go_wp2
              repeat (go_quiet (fail); try go_wp2)
              go_ret
              exact ⟨by first | rfl | (simp [errW_none, errW_some] <;> rfl) | (simp [*, errW_none, errW_some] <;> rfl), by repeat (first | (with_reducible first | exact HB.out | apply below_alloc | apply pw_below_drewN | apply below_drew1) | exact HB.out)⟩
      · rw [if_neg c7] at H
        have c7b0 : (t323 == 0) = false := beq_eq_false_iff_ne.mpr c7
        have c7b1 : (t323 != 0) = true := bne_iff_ne.mpr c7
        by_cases c44 : (t321.length : Int) = 0
        · rw [if_pos c44] at H
          have c44b0 : ((t321.length : Int) == 0) = true := beq_iff_eq.mpr c44
          have c44b1 : ((t321.length : Int) != 0) = false := bne_eq_false_iff_eq.mpr c44
          clear c44
          by_cases c45 : t322 ≥ 0
          · rw [if_pos c45] at H
            have c45b0 : decide (0 ≤ t322) = true := decide_eq_true c45
            clear c45
            obtain rfl := Option.some.inj H
            go_enter Tryd.func8, Tryd.ntmps8
            go_wp2_with (first | (go_at_call 11; (with_reducible refine (modcertlaw03_awake.calls  true _ A2.out ?gd_).mono ?_); (case gd_ => first | exact HG.out | exact Gd.below HG.out (by repeat (first | (with_reducible first | exact Below.refl _ _ | exact HB.out | apply below_alloc | apply pw_below_drewN | apply below_drew1) | exact HB.out)) | exact Gd.below HG.out (by first | exact HB | (refine Below.trans ?_ ?_ <;> first | exact HB.out))); rintro e w46 ⟨rfl, hb⟩; have n0_ := Aside0.mk (below_step (by repeat (first | (with_reducible first | exact HB.out | apply below_alloc | apply pw_below_drewN | apply below_drew1) | exact HB.out)) hb); clear HB; have HB := n0_; clear n0_; (try clear hb); (try clear hb2); (try clear hk); (try clear hi)) | (go_at_call 12; (with_reducible refine (lexer_Lex.calls a0 t321 t322 t323 _ A6.out ?gd_).mono ?_); (case gd_ => first | exact HG.out | exact Gd.below HG.out (by repeat (first | (with_reducible first | exact Below.refl _ _ | exact HB.out | apply below_alloc | apply pw_below_drewN | apply below_drew1) | exact HB.out)) | exact Gd.below HG.out (by first | exact HB | (refine Below.trans ?_ ?_ <;> first | exact HB.out))); rintro e w47 ⟨v324, rfl, ho0, hb⟩; have n0_ := Aside0.mk (Kd.R_lower ho0 (below_size (by repeat (first | (with_reducible first | exact HB.out | apply below_alloc | apply pw_below_drewN | apply below_drew1) | exact HB.out)))); have n1_ := Aside0.mk (below_step (by repeat (first | (with_reducible first | exact HB.out | apply below_alloc | apply pw_below_drewN | apply below_drew1) | exact HB.out)) hb); clear HB; have HO325 := n0_; have HB := n1_; clear n0_ n1_; (try clear hb); (try clear hb2); (try clear hk); (try clear hi); (try clear ho0); obtain ⟨Ao48, co48, eo48⟩ := Kd.R_slice HO325.out; subst eo48))
            repeat (go_quiet (first | (go_at_call 11; (with_reducible refine (modcertlaw03_awake.calls  true _ A2.out ?gd_).mono ?_); (case gd_ => first | exact HG.out | exact Gd.below HG.out (by repeat (first | (with_reducible first | exact Below.refl _ _ | exact HB.out | apply below_alloc | apply pw_below_drewN | apply below_drew1) | exact HB.out)) | exact Gd.below HG.out (by first | exact HB | (refine Below.trans ?_ ?_ <;> first | exact HB.out))); rintro e w46 ⟨rfl, hb⟩; have n0_ := Aside0.mk (below_step (by repeat (first | (with_reducible first | exact HB.out | apply below_alloc | apply pw_below_drewN | apply below_drew1) | exact HB.out)) hb); clear HB; have HB := n0_; clear n0_; (try clear hb); (try clear hb2); (try clear hk); (try clear hi)) | (go_at_call 12; (with_reducible refine (lexer_Lex.calls a0 t321 t322 t323 _ A6.out ?gd_).mono ?_); (case gd_ => first | exact HG.out | exact Gd.below HG.out (by repeat (first | (with_reducible first | exact Below.refl _ _ | exact HB.out | apply below_alloc | apply pw_below_drewN | apply below_drew1) | exact HB.out)) | exact Gd.below HG.out (by first | exact HB | (refine Below.trans ?_ ?_ <;> first | exact HB.out))); rintro e w47 ⟨v324, rfl, ho0, hb⟩; have n0_ := Aside0.mk (Kd.R_lower ho0 (below_size (by repeat (first | (with_reducible first | exact HB.out | apply below_alloc | apply pw_below_drewN | apply below_drew1) | exact HB.out)))); have n1_ := Aside0.mk (below_step (by repeat (first | (with_reducible first | exact HB.out | apply below_alloc | apply pw_below_drewN | apply below_drew1) | exact HB.out)) hb); clear HB; have HO325 := n0_; have HB := n1_; clear n0_ n1_; (try clear hb); (try clear hb2); (try clear hk); (try clear hi); (try clear ho0); obtain ⟨Ao48, co48, eo48⟩ := Kd.R_slice HO325.out; subst eo48)); try go_wp2_with (first | (go_at_call 11; (with_reducible refine (modcertlaw03_awake.calls  true _ A2.out ?gd_).mono ?_); (case gd_ => first | exact HG.out | exact Gd.below HG.out (by repeat (first | (with_reducible first | exact Below.refl _ _ | exact HB.out | apply below_alloc | apply pw_below_drewN | apply below_drew1) | exact HB.out)) | exact Gd.below HG.out (by first | exact HB | (refine Below.trans ?_ ?_ <;> first | exact HB.out))); rintro e w46 ⟨rfl, hb⟩; have n0_ := Aside0.mk (below_step (by repeat (first | (with_reducible first | exact HB.out | apply below_alloc | apply pw_below_drewN | apply below_drew1) | exact HB.out)) hb); clear HB; have HB := n0_; clear n0_; (try clear hb); (try clear hb2); (try clear hk); (try clear hi)) | (go_at_call 12; (with_reducible refine (lexer_Lex.calls a0 t321 t322 t323 _ A6.out ?gd_).mono ?_); (case gd_ => first | exact HG.out | exact Gd.below HG.out (by repeat (first | (with_reducible first | exact Below.refl _ _ | exact HB.out | apply below_alloc | apply pw_below_drewN | apply below_drew1) | exact HB.out)) | exact Gd.below HG.out (by first | exact HB | (refine Below.trans ?_ ?_ <;> first | exact HB.out))); rintro e w47 ⟨v324, rfl, ho0, hb⟩; have n0_ := Aside0.mk (Kd.R_lower ho0 (below_size (by repeat (first | (with_reducible first | exact HB.out | apply below_alloc | apply pw_below_drewN | apply below_drew1) | exact HB.out)))); have n1_ := Aside0.mk (below_step (by repeat (first | (with_reducible first | exact HB.out | apply below_alloc | apply pw_below_drewN | apply below_drew1) | exact HB.out)) hb); clear HB; have HO325 := n0_; have HB := n1_; clear n0_ n1_; (try clear hb); (try clear hb2); (try clear hk); (try clear hi); (try clear ho0); obtain ⟨Ao48, co48, eo48⟩ := Kd.R_slice HO325.out; subst eo48)))
            go_ret
            exact ⟨by first | rfl | (simp [errW_none, errW_some] <;> rfl) | (simp [*, errW_none, errW_some] <;> rfl), by repeat (first | (with_reducible first | exact HB.out | apply below_alloc | apply pw_below_drewN | apply below_drew1) | exact HB.out)⟩
          · rw [if_neg c45] at H
            have c45b0 : decide (0 ≤ t322) = false := decide_eq_false c45
            clear c45
            obtain rfl := Option.some.inj H
            go_enter Tryd.func8, Tryd.ntmps8
            go_wp2_with (first | (go_at_call 11; (with_reducible refine (modcertlaw03_awake.calls  true _ A2.out ?gd_).mono ?_); (case gd_ => first | exact HG.out | exact Gd.below HG.out (by repeat (first | (with_reducible first | exact Below.refl _ _ | exact HB.out | apply below_alloc | apply pw_below_drewN | apply below_drew1) | exact HB.out)) | exact Gd.below HG.out (by first | exact HB | (refine Below.trans ?_ ?_ <;> first | exact HB.out))); rintro e w49 ⟨rfl, hb⟩; have n0_ := Aside0.mk (below_step (by repeat (first | (with_reducible first | exact HB.out | apply below_alloc | apply pw_below_drewN | apply below_drew1) | exact HB.out)) hb); clear HB; have HB := n0_; clear n0_; (try clear hb); (try clear hb2); (try clear hk); (try clear hi)) | (go_at_call 12; (with_reducible refine (lexer_Lex.calls a0 t321 t322 t323 _ A6.out ?gd_).mono ?_); (case gd_ => first | exact HG.out | exact Gd.below HG.out (by repeat (first | (with_reducible first | exact Below.refl _ _ | exact HB.out | apply below_alloc | apply pw_below_drewN | apply below_drew1) | exact HB.out)) | exact Gd.below HG.out (by first | exact HB | (refine Below.trans ?_ ?_ <;> first | exact HB.out))); rintro e w50 ⟨v324, rfl, ho0, hb⟩; have n0_ := Aside0.mk (Kd.R_lower ho0 (below_size (by repeat (first | (with_reducible first | exact HB.out | apply below_alloc | apply pw_below_drewN | apply below_drew1) | exact HB.out)))); have n1_ := Aside0.mk (below_step (by repeat (first | (with_reducible first | exact HB.out | apply below_alloc | apply pw_below_drewN | apply below_drew1) | exact HB.out)) hb); clear HB; have HO325 := n0_; have HB := n1_; clear n0_ n1_; (try clear hb); (try clear hb2); (try clear hk); (try clear hi); (try clear ho0); obtain ⟨Ao51, co51, eo51⟩ := Kd.R_slice HO325.out; subst eo51))
            repeat (go_quiet (first | (go_at_call 11; (with_reducible refine (modcertlaw03_awake.calls  true _ A2.out ?gd_).mono ?_); (case gd_ => first | exact HG.out | exact Gd.below HG.out (by repeat (first | (with_reducible first | exact Below.refl _ _ | exact HB.out | apply below_alloc | apply pw_below_drewN | apply below_drew1) | exact HB.out)) | exact Gd.below HG.out (by first | exact HB | (refine Below.trans ?_ ?_ <;> first | exact HB.out))); rintro e w49 ⟨rfl, hb⟩; have n0_ := Aside0.mk (below_step (by repeat (first | (with_reducible first | exact HB.out | apply below_alloc | apply pw_below_drewN | apply below_drew1) | exact HB.out)) hb); clear HB; have HB := n0_; clear n0_; (try clear hb); (try clear hb2); (try clear hk); (try clear hi)) | (go_at_call 12; (with_reducible refine (lexer_Lex.calls a0 t321 t322 t323 _ A6.out ?gd_).mono ?_); (case gd_ => first | exact HG.out | exact Gd.below HG.out (by repeat (first | (with_reducible first | exact Below.refl _ _ | exact HB.out | apply below_alloc | apply pw_below_drewN | apply below_drew1) | exact HB.out)) | exact Gd.below HG.out (by first | exact HB | (refine Below.trans ?_ ?_ <;> first | exact HB.out))); rintro e w50 ⟨v324, rfl, ho0, hb⟩; have n0_ := Aside0.mk (Kd.R_lower ho0 (below_size (by repeat (first | (with_reducible first | exact HB.out | apply below_alloc | apply pw_below_drewN | apply below_drew1) | exact HB.out)))); have n1_ := Aside0.mk (below_step (by repeat (first | (with_reducible first | exact HB.out | apply below_alloc | apply pw_below_drewN | apply below_drew1) | exact HB.out)) hb); clear HB; have HO325 := n0_; have HB := n1_; clear n0_ n1_; (try clear hb); (try clear hb2); (try clear hk); (try clear hi); (try clear ho0); obtain ⟨Ao51, co51, eo51⟩ := Kd.R_slice HO325.out; subst eo51)); try go_wp2_with (first | (go_at_call 11; (with_reducible refine (modcertlaw03_awake.calls  true _ A2.out ?gd_).mono ?_); (case gd_ => first | exact HG.out | exact Gd.below HG.out (by repeat (first | (with_reducible first | exact Below.refl _ _ | exact HB.out | apply below_alloc | apply pw_below_drewN | apply below_drew1) | exact HB.out)) | exact Gd.below HG.out (by first | exact HB | (refine Below.trans ?_ ?_ <;> first | exact HB.out))); rintro e w49 ⟨rfl, hb⟩; have n0_ := Aside0.mk (below_step (by repeat (first | (with_reducible first | exact HB.out | apply below_alloc | apply pw_below_drewN | apply below_drew1) | exact HB.out)) hb); clear HB; have HB := n0_; clear n0_; (try clear hb); (try clear hb2); (try clear hk); (try clear hi)) | (go_at_call 12; (with_reducible refine (lexer_Lex.calls a0 t321 t322 t323 _ A6.out ?gd_).mono ?_); (case gd_ => first | exact HG.out | exact Gd.below HG.out (by repeat (first | (with_reducible first | exact Below.refl _ _ | exact HB.out | apply below_alloc | apply pw_below_drewN | apply below_drew1) | exact HB.out)) | exact Gd.below HG.out (by first | exact HB | (refine Below.trans ?_ ?_ <;> first | exact HB.out))); rintro e w50 ⟨v324, rfl, ho0, hb⟩; have n0_ := Aside0.mk (Kd.R_lower ho0 (below_size (by repeat (first | (with_reducible first | exact HB.out | apply below_alloc | apply pw_below_drewN | apply below_drew1) | exact HB.out)))); have n1_ := Aside0.mk (below_step (by repeat (first | (with_reducible first | exact HB.out | apply below_alloc | apply pw_below_drewN | apply below_drew1) | exact HB.out)) hb); clear HB; have HO325 := n0_; have HB := n1_; clear n0_ n1_; (try clear hb); (try clear hb2); (try clear hk); (try clear hi); (try clear ho0); obtain ⟨Ao51, co51, eo51⟩ := Kd.R_slice HO325.out; subst eo51)))
            go_ret
            exact ⟨by first | rfl | (simp [errW_none, errW_some] <;> rfl) | (simp [*, errW_none, errW_some] <;> rfl), by repeat (first | (with_reducible first | exact HB.out | apply below_alloc | apply pw_below_drewN | apply below_drew1) | exact HB.out)⟩
        · rw [if_neg c44] at H
          have c44b0 : ((t321.length : Int) == 0) = false := beq_eq_false_iff_ne.mpr c44
          have c44b1 : ((t321.length : Int) != 0) = true := bne_iff_ne.mpr c44
          have c44b2 : ¬ (t321 = []) := fun h_ => c44 (by rw [h_]; rfl)
          obtain rfl := Option.some.inj H
          go_enter Tryd.func8, Tryd.ntmps8
          go_wp2_with (first | (go_at_call 11; (with_reducible refine (modcertlaw03_awake.calls  true _ A2.out ?gd_).mono ?_); (case gd_ => first | exact HG.out | exact Gd.below HG.out (by repeat (first | (with_reducible first | exact Below.refl _ _ | exact HB.out | apply below_alloc | apply pw_below_drewN | apply below_drew1) | exact HB.out)) | exact Gd.below HG.out (by first | exact HB | (refine Below.trans ?_ ?_ <;> first | exact HB.out))); rintro e w52 ⟨rfl, hb⟩; have n0_ := Aside0.mk (below_step (by repeat (first | (with_reducible first | exact HB.out | apply below_alloc | apply pw_below_drewN | apply below_drew1) | exact HB.out)) hb); clear HB; have HB := n0_; clear n0_; (try clear hb); (try clear hb2); (try clear hk); (try clear hi)) | (go_at_call 12; (with_reducible refine (lexer_Lex.calls a0 t321 t322 t323 _ A6.out ?gd_).mono ?_); (case gd_ => first | exact HG.out | exact Gd.below HG.out (by repeat (first | (with_reducible first | exact Below.refl _ _ | exact HB.out | apply below_alloc | apply pw_below_drewN | apply below_drew1) | exact HB.out)) | exact Gd.below HG.out (by first | exact HB | (refine Below.trans ?_ ?_ <;> first | exact HB.out))); rintro e w53 ⟨v324, rfl, ho0, hb⟩; have n0_ := Aside0.mk (Kd.R_lower ho0 (below_size (by repeat (first | (with_reducible first | exact HB.out | apply below_alloc | apply pw_below_drewN | apply below_drew1) | exact HB.out)))); have n1_ := Aside0.mk (below_step (by repeat (first | (with_reducible first | exact HB.out | apply below_alloc | apply pw_below_drewN | apply below_drew1) | exact HB.out)) hb); clear HB; have HO325 := n0_; have HB := n1_; clear n0_ n1_; (try clear hb); (try clear hb2); (try clear hk); (try clear hi); (try clear ho0); obtain ⟨Ao54, co54, eo54⟩ := Kd.R_slice HO325.out; subst eo54))
          repeat (go_quiet (first | (go_at_call 11; (with_reducible refine (modcertlaw03_awake.calls  true _ A2.out ?gd_).mono ?_); (case gd_ => first | exact HG.out | exact Gd.below HG.out (by repeat (first | (with_reducible first | exact Below.refl _ _ | exact HB.out | apply below_alloc | apply pw_below_drewN | apply below_drew1) | exact HB.out)) | exact Gd.below HG.out (by first | exact HB | (refine Below.trans ?_ ?_ <;> first | exact HB.out))); rintro e w52 ⟨rfl, hb⟩; have n0_ := Aside0.mk (below_step (by repeat (first | (with_reducible first | exact HB.out | apply below_alloc | apply pw_below_drewN | apply below_drew1) | exact HB.out)) hb); clear HB; have HB := n0_; clear n0_; (try clear hb); (try clear hb2); (try clear hk); (try clear hi)) | (go_at_call 12; (with_reducible refine (lexer_Lex.calls a0 t321 t322 t323 _ A6.out ?gd_).mono ?_); (case gd_ => first | exact HG.out | exact Gd.below HG.out (by repeat (first | (with_reducible first | exact Below.refl _ _ | exact HB.out | apply below_alloc | apply pw_below_drewN | apply below_drew1) | exact HB.out)) | exact Gd.below HG.out (by first | exact HB | (refine Below.trans ?_ ?_ <;> first | exact HB.out))); rintro e w53 ⟨v324, rfl, ho0, hb⟩; have n0_ := Aside0.mk (Kd.R_lower ho0 (below_size (by repeat (first | (with_reducible first | exact HB.out | apply below_alloc | apply pw_below_drewN | apply below_drew1) | exact HB.out)))); have n1_ := Aside0.mk (below_step (by repeat (first | (with_reducible first | exact HB.out | apply below_alloc | apply pw_below_drewN | apply below_drew1) | exact HB.out)) hb); clear HB; have HO325 := n0_; have HB := n1_; clear n0_ n1_; (try clear hb); (try clear hb2); (try clear hk); (try clear hi); (try clear ho0); obtain ⟨Ao54, co54, eo54⟩ := Kd.R_slice HO325.out; subst eo54)); try go_wp2_with (first | (go_at_call 11; (with_reducible refine (modcertlaw03_awake.calls  true _ A2.out ?gd_).mono ?_); (case gd_ => first | exact HG.out | exact Gd.below HG.out (by repeat (first | (with_reducible first | exact Below.refl _ _ | exact HB.out | apply below_alloc | apply pw_below_drewN | apply below_drew1) | exact HB.out)) | exact Gd.below HG.out (by first | exact HB | (refine Below.trans ?_ ?_ <;> first | exact HB.out))); rintro e w52 ⟨rfl, hb⟩; have n0_ := Aside0.mk (below_step (by repeat (first | (with_reducible first | exact HB.out | apply below_alloc | apply pw_below_drewN | apply below_drew1) | exact HB.out)) hb); clear HB; have HB := n0_; clear n0_; (try clear hb); (try clear hb2); (try clear hk); (try clear hi)) | (go_at_call 12; (with_reducible refine (lexer_Lex.calls a0 t321 t322 t323 _ A6.out ?gd_).mono ?_); (case gd_ => first | exact HG.out | exact Gd.below HG.out (by repeat (first | (with_reducible first | exact Below.refl _ _ | exact HB.out | apply below_alloc | apply pw_below_drewN | apply below_drew1) | exact HB.out)) | exact Gd.below HG.out (by first | exact HB | (refine Below.trans ?_ ?_ <;> first | exact HB.out))); rintro e w53 ⟨v324, rfl, ho0, hb⟩; have n0_ := Aside0.mk (Kd.R_lower ho0 (below_size (by repeat (first | (with_reducible first | exact HB.out | apply below_alloc | apply pw_below_drewN | apply below_drew1) | exact HB.out)))); have n1_ := Aside0.mk (below_step (by repeat (first | (with_reducible first | exact HB.out | apply below_alloc | apply pw_below_drewN | apply below_drew1) | exact HB.out)) hb); clear HB; have HO325 := n0_; have HB := n1_; clear n0_ n1_; (try clear hb); (try clear hb2); (try clear hk); (try clear hi); (try clear ho0); obtain ⟨Ao54, co54, eo54⟩ := Kd.R_slice HO325.out; subst eo54)))
          go_ret
          exact ⟨by first | rfl | (simp [errW_none, errW_some] <;> rfl) | (simp [*, errW_none, errW_some] <;> rfl), by repeat (first | (with_reducible first | exact HB.out | apply below_alloc | apply pw_below_drewN | apply below_drew1) | exact HB.out)⟩
  · replace c3 := Bool.eq_false_iff.mpr c3
    subst c3
    have H1 : (some false) = some r := by rw [if_neg (show ¬ (false = true) by decide)] at H; exact H
    clear H
    have H := H1
    clear H1
    obtain rfl := Option.some.inj H
    go_enter Tryd.func8, Tryd.ntmps8
    go_wp2_with (first | (go_at_call 11; (with_reducible refine (modcertlaw03_awake.calls  false _ A2.out ?gd_).mono ?_); (case gd_ => first | exact HG.out | exact Gd.below HG.out (by repeat (first | (with_reducible first | exact Below.refl _ _ | exact HB.out | apply below_alloc | apply pw_below_drewN | apply below_drew1) | exact HB.out)) | exact Gd.below HG.out (by first | exact HB | (refine Below.trans ?_ ?_ <;> first | exact HB.out))); rintro e w55 ⟨rfl, hb⟩; have n0_ := Aside0.mk (below_step (by repeat (first | (with_reducible first | exact HB.out | apply below_alloc | apply pw_below_drewN | apply below_drew1) | exact HB.out)) hb); clear HB; have HB := n0_; clear n0_; (try clear hb); (try clear hb2); (try clear hk); (try clear hi)))
    repeat (go_quiet (first | (go_at_call 11; (with_reducible refine (modcertlaw03_awake.calls  false _ A2.out ?gd_).mono ?_); (case gd_ => first | exact HG.out | exact Gd.below HG.out (by repeat (first | (with_reducible first | exact Below.refl _ _ | exact HB.out | apply below_alloc | apply pw_below_drewN | apply below_drew1) | exact HB.out)) | exact Gd.below HG.out (by first | exact HB | (refine Below.trans ?_ ?_ <;> first | exact HB.out))); rintro e w55 ⟨rfl, hb⟩; have n0_ := Aside0.mk (below_step (by repeat (first | (with_reducible first | exact HB.out | apply below_alloc | apply pw_below_drewN | apply below_drew1) | exact HB.out)) hb); clear HB; have HB := n0_; clear n0_; (try clear hb); (try clear hb2); (try clear hk); (try clear hi))); try go_wp2_with (first | (go_at_call 11; (with_reducible refine (modcertlaw03_awake.calls  false _ A2.out ?gd_).mono ?_); (case gd_ => first | exact HG.out | exact Gd.below HG.out (by repeat (first | (with_reducible first | exact Below.refl _ _ | exact HB.out | apply below_alloc | apply pw_below_drewN | apply below_drew1) | exact HB.out)) | exact Gd.below HG.out (by first | exact HB | (refine Below.trans ?_ ?_ <;> first | exact HB.out))); rintro e w55 ⟨rfl, hb⟩; have n0_ := Aside0.mk (below_step (by repeat (first | (with_reducible first | exact HB.out | apply below_alloc | apply pw_below_drewN | apply below_drew1) | exact HB.out)) hb); clear HB; have HB := n0_; clear n0_; (try clear hb); (try clear hb2); (try clear hk); (try clear hi))))
    go_ret
    exact ⟨by first | rfl | (simp [errW_none, errW_some] <;> rfl) | (simp [*, errW_none, errW_some] <;> rfl), by repeat (first | (with_reducible first | exact HB.out | apply below_alloc | apply pw_below_drewN | apply below_drew1) | exact HB.out)⟩

/-- THE ONE PURE STATEMENT of modcertlaw03_LexerOffsets: yours. -/
def modcertlaw03_LexerOffsets.Pure : Prop := ∀ (a0 : ByteArray), a0.size ≤ 140737488351232 → ∃ k, modcertlaw03_LexerOffsets.f k a0 = some true
theorem modcertlaw03_LexerOffsets.walk (P : modcertlaw03_LexerOffsets.Pure) (a0 : ByteArray) (w : World) (hG : Gd w) (w0 : a0.size ≤ 140737488351232) :
    Calls Tryd.prog 8 #[.string a0] w fun e w' => e = .returned (.bool true) ∧ Below w.heap.size w w' := by
  obtain ⟨k, h⟩ := P a0 w0
  refine (modcertlaw03_LexerOffsets.calls k a0 true w h hG).mono ?_
  rintro e w' ⟨rfl, hd⟩
  exact ⟨rfl, hd⟩

end Go.Proofs.YtmndicibakaceaaDoor.Pr
