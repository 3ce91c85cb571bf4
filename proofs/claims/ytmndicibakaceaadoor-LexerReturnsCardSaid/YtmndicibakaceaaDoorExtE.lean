/- The contract of modcertlaw03.awake, in the form that the printed texts take: it answers true. -/
import Derived.Test.YtmndicibakaceaaDoorExtD
import Derived.Test.YtmndicibakaceaaDoorExtQ
import Derived.Test.YtmndicibakaceaaDoorPr9
import Derived.Test.YtmndicibakaceaaDoorPr10
namespace Go.Proofs.YtmndicibakaceaaDoor.Pr
open Go.RowKit Go.Proofs.YtmndicibakaceaaDoorW.PrintWords Go.Proofs.YtmndicibakaceaaDoorW.PrintLast Go.Proofs.YtmndicibakaceaaDoorW.PrintMore
def awakeToks : List S36 := [⟨5, ⟨#[102, 110]⟩, 0⟩, ⟨6, ⟨#[40]⟩, 2⟩, ⟨1, ⟨#[97]⟩, 3⟩, ⟨6, ⟨#[63]⟩, 4⟩, ⟨6, ⟨#[58]⟩, 5⟩, ⟨5, ⟨#[105, 110, 116]⟩, 7⟩, ⟨6, ⟨#[41]⟩, 10⟩, ⟨6, ⟨#[61, 62]⟩, 12⟩, ⟨1, ⟨#[97]⟩, 15⟩, ⟨0, ⟨#[]⟩, 16⟩]
set_option maxRecDepth 100000 in
theorem awake_lex : lexer_Lex.f ⟨#[102, 110, 40, 97, 63, 58, 32, 105, 110, 116, 41, 32, 61, 62, 32, 97]⟩ = some (awakeToks, 0, 0) := by kernel_rfl
theorem awake_major : lexer_Major.f 30 ⟨#[103, 101, 111, 47, 115, 104, 97, 112, 101, 115, 47, 118, 49, 50]⟩ = some (12, 0) := by kernel_rfl
theorem awake_pos : lexer_Position.f 30 ⟨#[97, 10, 98, 99]⟩ 3 = some (2, 2) := by kernel_rfl
theorem awake_quote : lexer_Quote.f ⟨#[97, 34, 10]⟩ = some ⟨#[34, 97, 92, 34, 92, 110, 34]⟩ := by kernel_rfl
theorem awake_name : lexer_IsName.f ⟨#[97]⟩ = some true := by kernel_rfl
theorem awake_type : lexer_IsType.f ⟨#[65]⟩ = some true := by kernel_rfl
theorem awake_path : lexer_IsPath.f 30 ⟨#[97, 47, 118, 48]⟩ = some true := by kernel_rfl
def modcertlaw03_awake.f : Option Bool := some true
set_option maxRecDepth 100000 in
set_option maxHeartbeats 4000000 in
theorem modcertlaw03_awake.calls (r : Bool) (w : World) (h : modcertlaw03_awake.f = some r) (hG : Gd w) :
    Calls Tryd.prog 11 #[] w fun e w' => e = .returned (.bool r) ∧ Below w.heap.size w w' := by
  obtain rfl := Option.some.inj h
  clear h
  go_enter Tryd.func11, Tryd.ntmps11
  go_wp2_with (first
    | (go_at_call 12; (with_reducible refine (lexer_Lex.calls _ _ _ _ _ awake_lex hG).mono ?_); rintro e w2 ⟨v0, rfl, hR, hb2⟩; obtain ⟨A, c, rfl⟩ : ∃ A c, v0 = .slice A 10 c := Kd.R_slice hR; have hG2 := Gd.below hG hb2; have HR := Aside0.mk hR; clear hR)
    | (go_at_call 15; (with_reducible refine (lexer_Major.calls _ _ _ _ _ awake_major hG2).mono ?_); rintro e w3 ⟨rfl, hb3⟩; have hC3 := (Kd.R_reads' (Kd.R_below HR.out hb3)).2.2; obtain ⟨ad, rfl, h9a, h9b, h9c⟩ := at_T36 hC3 9 (by decide) (by decide); obtain ⟨ad', e7, h7a, h7b, h7c⟩ := at_T36 hC3 7 (by decide) (by decide); cases e7; (try simp only [show (9 : Int).toNat = 9 from rfl, Nat.reduceMul, Nat.reduceEqDiff, Go.Addr.add, ↓reduceIte] at h9a); replace h9a : w3.cell? _ = some (.int .i64 0) := h9a; (try simp only [show (9 : Int).toNat = 9 from rfl, Nat.reduceMul, Nat.reduceEqDiff, Go.Addr.add, ↓reduceIte] at h9b); replace h9b : w3.cell? _ = some (.string ⟨#[]⟩) := h9b; (try simp only [show (9 : Int).toNat = 9 from rfl, Nat.reduceMul, Nat.reduceEqDiff, Go.Addr.add, ↓reduceIte] at h9c); replace h9c : w3.cell? _ = some (.int .i64 16) := h9c; (try simp only [show (7 : Int).toNat = 7 from rfl, Nat.reduceMul, Nat.reduceEqDiff, Go.Addr.add, ↓reduceIte] at h7a); replace h7a : w3.cell? _ = some (.int .i64 6) := h7a; (try simp only [show (7 : Int).toNat = 7 from rfl, Nat.reduceMul, Nat.reduceEqDiff, Go.Addr.add, ↓reduceIte] at h7b); replace h7b : w3.cell? _ = some (.string ⟨#[61, 62]⟩) := h7b; (try simp only [show (7 : Int).toNat = 7 from rfl, Nat.reduceMul, Nat.reduceEqDiff, Go.Addr.add, ↓reduceIte] at h7c); replace h7c : w3.cell? _ = some (.int .i64 12) := h7c; have hG3 := Gd.below hG2 hb3; have HB3 := Aside0.mk (hb2.trans (hb3.mono hb2.size)); clear hC3)
    | (go_at_call 23; (with_reducible refine (lexer_Position.calls _ _ _ _ _ _ awake_pos).mono ?_); rintro e w4 ⟨rfl, hb4⟩; have hG4 := Gd.below hG3 hb4; have HB4 := Aside0.mk (HB3.out.trans (hb4.mono HB3.out.size)))
    | (go_at_call 25; (with_reducible refine (lexer_Quote.calls _ _ _ awake_quote).mono ?_); rintro e w5 ⟨rfl, hb5⟩; have hG5 := Gd.below hG4 hb5; have HB5 := Aside0.mk (HB4.out.trans (hb5.mono HB4.out.size)))
    | (go_at_call 17; (with_reducible refine (lexer_IsName.calls _ _ _ awake_name hG5).mono ?_); rintro e w6 ⟨rfl, nd6, rfl⟩)
    | (go_at_call 19; (with_reducible refine (lexer_IsType.calls _ _ _ awake_type).mono ?_); rintro e w7 ⟨rfl, nd7, rfl⟩)
    | (go_at_call 21; (with_reducible refine (lexer_IsPath.calls _ _ _ _ awake_path (Gd.below hG5 (by repeat (first | (with_reducible exact Below.refl _ _) | (with_reducible apply pw_below_drewN) | (with_reducible apply below_drew1) | (with_reducible apply below_alloc))))).mono ?_); rintro e w8 ⟨rfl, hb8⟩))
  go_ret
  refine ⟨rfl, Below.trans (B := w.heap.size) (by repeat (first | (with_reducible exact HB5.out) | (with_reducible apply pw_below_drewN) | (with_reducible apply below_drew1))) (hb8.mono HB5.out.size)⟩
end Go.Proofs.YtmndicibakaceaaDoor.Pr
