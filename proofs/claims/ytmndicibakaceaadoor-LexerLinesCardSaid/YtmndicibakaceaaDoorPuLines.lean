/- The plain law of LexerLines: what the printed function answers is true. -/
import Derived.Test.YtmndicibakaceaaDoorPuBase
import Derived.Test.YtmndicibakaceaaDoorPr21
namespace Go.Proofs.YtmndicibakaceaaDoor.Pr
open Go.RowKit Go.Proofs.YtmndicibakaceaaDoorW.PrintWords Go.Proofs.YtmndicibakaceaaDoorW.PrintLast Go.Proofs.YtmndicibakaceaaDoorW.PrintMore
theorem wf_u16 {a : Int} (h : (Lit.int .u16 a).wf = true) : 0 ≤ a ∧ a ≤ 65535 := by
  simp [Lit.wf, IntKind.min, IntKind.max, IntKind.signed, IntKind.bits] at h
  omega
theorem pos_some (s : ByteArray) (hs : s.size ≤ 1000000000) (n : Nat) (hn : n ≤ s.size) :
    lexer_Position.f ((s.extract 0 n).size + 1) s (n : Int) = some (1 + ((Lib.countByte (s.extract 0 n).data.toList 10 : Nat) : Int), ((n : Int) - lastN (s.extract 0 n) 10 n)) := by
  have hz : (s.extract 0 n).size = n := by rw [ByteArray.size_extract]; omega
  have hm : mn (mx (n : Int) 0) (s.size : Int) = n := by unfold mn mx; rw [if_neg (by omega), if_neg (by omega)]
  have hc : Lib.countByte (s.extract 0 n).data.toList 10 ≤ n := by
    have := List.count_le_length (a := (10 : UInt8)) (l := (s.extract 0 n).data.toList)
    unfold Lib.countByte
    have h2 : (s.extract 0 n).data.toList.length = (s.extract 0 n).size := rfl
    omega
  have hl := lastN_range (s.extract 0 n) 10 n
  unfold lexer_Position.f
  rw [hm, if_pos (by omega), if_pos (by omega)]
  have e0 : ((n : Int)).toNat = n := rfl
  have e1 : strings_Count.f (s.extract 0 n) ⟨#[10]⟩ = some ((Lib.countByte (s.extract 0 n).data.toList 10 : Nat) : Int) := rfl
  rw [e0, e1, last_some _ 10 (by omega), hz]
  simp only [Option.bind_some, Option.some.injEq, Prod.mk.injEq]
  constructor
  · unfold wrap64; omega
  · unfold wrap64; omega
theorem lines_at (s : ByteArray) (a1 : Int) (hr : 0 ≤ a1 ∧ a1 ≤ 65535) (hs : s.size ≤ 1000) : ∃ n : Nat, Int.tmod (wrap64 a1) (wrap64 ((s.size : Int) + 1)) = n ∧ n ≤ s.size := by
  refine ⟨a1.toNat % (s.size + 1), ?_, by have := Nat.mod_lt a1.toNat (show 0 < s.size + 1 by omega); omega⟩
  rw [wr64 (n := a1) (by omega), wr64 (n := (s.size : Int) + 1) (by omega)]
  obtain ⟨m, rfl⟩ : ∃ m : Nat, a1 = m := ⟨a1.toNat, by omega⟩
  rfl
theorem lines_big (a0 : ByteArray) (a1 : Int) (k : Nat) (hbig : (a0.size : Int) > 1000) : modcertlaw03_LexerLines.f k a0 a1 = some true := by
  unfold modcertlaw03_LexerLines.f modcertlaw03_awake.f
  rw [Option.bind_some, if_pos rfl, if_pos hbig]
theorem lines_small (a0 : ByteArray) (a1 : Int) (n k : Nat) (hbig : ¬ (a0.size : Int) > 1000) (hn : Int.tmod (wrap64 a1) (wrap64 ((a0.size : Int) + 1)) = n) (hle : n ≤ a0.size) (hk : k = (a0.extract 0 n).size + 1) : modcertlaw03_LexerLines.f k a0 a1 = some true := by
  have hz : (a0.extract 0 n).size = n := by rw [ByteArray.size_extract]; omega
  have hl := lastN_range (a0.extract 0 n) 10 n
  have hc : Lib.countByte (a0.extract 0 n).data.toList 10 ≤ n := by
    have := List.count_le_length (a := (10 : UInt8)) (l := (a0.extract 0 n).data.toList)
    unfold Lib.countByte
    have h2 : (a0.extract 0 n).data.toList.length = (a0.extract 0 n).size := rfl
    omega
  have hp := pos_some a0 (by omega) n hle
  rw [← hk] at hp
  have e0 : ((n : Int)).toNat = n := rfl
  have e1 : strings_Count.f (a0.extract 0 n) ⟨#[10]⟩ = some ((Lib.countByte (a0.extract 0 n).data.toList 10 : Nat) : Int) := rfl
  have e2 := last_some (a0.extract 0 n) 10 (by omega)
  rw [← hk, hz] at e2
  unfold modcertlaw03_LexerLines.f modcertlaw03_awake.f
  rw [Option.bind_some, if_pos rfl, if_neg hbig, if_neg (by rw [wr64 (by omega)]; omega), hn, hp, Option.bind_some, if_pos (by omega), if_pos (by omega), e0, e1, Option.bind_some]
  rw [if_pos (wr64 (by omega)).symm, e2, Option.bind_some]
  rw [Option.some.injEq, beq_iff_eq, wr64 (n := 1 + (n : Int)) (by omega), wr64 (n := lastN (a0.extract 0 n) 10 n + 1) (by omega), wr64 (by omega)]
  omega
theorem LexerLines : modcertlaw03_LexerLines.Pure := by
  intro a0 a1 h0 h1
  by_cases hbig : (a0.size : Int) > 1000
  · exact ⟨0, lines_big a0 a1 0 hbig⟩
  · obtain ⟨n, hn, hle⟩ := lines_at a0 a1 (wf_u16 h1) (by omega)
    exact ⟨_, lines_small a0 a1 n _ hbig hn hle rfl⟩
end Go.Proofs.YtmndicibakaceaaDoor.Pr
