/- The plain law of LexerQuotes: what the printed function answers is true. -/
import Derived.Test.YtmndicibakaceaaDoorPuQuo
import Derived.Test.YtmndicibakaceaaDoorPr20
namespace Go.Proofs.YtmndicibakaceaaDoor.Pr
open Go.RowKit Go.Proofs.YtmndicibakaceaaDoorW.PrintWords Go.Proofs.YtmndicibakaceaaDoorW.PrintLast Go.Proofs.YtmndicibakaceaaDoorW.PrintMore
theorem quotes_toks (l : List UInt8) (k o : Nat) : toksL (k + 2) (quoteL l) o = [(⟨4, ofL l, o⟩, 0), (⟨0, ⟨#[]⟩, (o + (quoteL l).length : Nat)⟩, 0)] := by
  have hn := nextL_quote l []
  rw [List.append_nil] at hn
  have hne : quoteL l ≠ [] := by simp [quoteL]
  rw [toksL, if_neg hne, hn, if_pos rfl]
  simp only
  rw [List.drop_length]
  rfl
theorem quotes_lex (l : List UInt8) (hl : l.length ≤ 1000) : ∃ o, lexer_Lex.f ((⟨#[32]⟩ : ByteArray) ++ ofL (quoteL l)) = some ([⟨4, ofL l, 1⟩, ⟨0, ⟨#[]⟩, o⟩], 0, 0) := by
  have hb := (bodyL_len l).2
  have hq := quoteL_len l
  have e : (⟨#[32]⟩ : ByteArray) ++ ofL (quoteL l) = ofL (32 :: quoteL l) := ofL_eq (by rw [ByteArray.data_append, Array.toList_append, ofL_list]; rfl)
  have hs : skipN false (32 :: quoteL l) = 1 := by
    rw [skipN_f, if_neg (by simp), if_pos (by simp)]
    unfold quoteL
    rw [skipN_f, if_neg (by simp), if_neg (by decide)]
  refine ⟨((1 + (quoteL l).length : Nat) : Int), ?_⟩
  rw [e, lex_some _ (by rw [ofL_size, List.length_cons]; omega), ofL_list, hs, ofL_size, List.length_cons]
  show some (scanToks (toksL ((quoteL l).length + 2) (quoteL l) 1) []) = _
  rw [quotes_toks]
  rfl
theorem bt_ofL {l : List UInt8} {i : Nat} (h : i < l.length) : bt (ofL l) (i : Int) = ((l[i]'h).toNat : Int) := by
  rw [bt_cast _ _ (by rw [ofL_size]; exact h)]
  simp [ofL]
theorem quotes_loop (s : ByteArray) (hs : s.size ≤ 1000) : ∀ (d i k : Nat), i + d = (quoteL s.data.toList).length → d < k → modcertlaw03_LexerQuotes.l0 k s (ofL (quoteL s.data.toList)) ((quoteL s.data.toList).length : Int) (i : Int) = some true
  | 0, i, k, hi, hk => by
    obtain ⟨k, rfl⟩ : ∃ q, k = q + 1 := ⟨k - 1, by omega⟩
    have hb := (bodyL_len s.data.toList).2
    have hq := quoteL_len s.data.toList
    have hl : s.data.toList.length = s.size := rfl
    obtain ⟨o, ho⟩ := quotes_lex s.data.toList hs
    rw [modcertlaw03_LexerQuotes.l0, if_neg (by omega), if_pos (by rw [ofL_size]; omega), ho, Option.bind_some]
    simp [rd_T36, ofL_of]
  | d + 1, i, k, hi, hk => by
    obtain ⟨k, rfl⟩ : ∃ q, k = q + 1 := ⟨k - 1, by omega⟩
    have hb := (bodyL_len s.data.toList).2
    have hq := quoteL_len s.data.toList
    have hl : s.data.toList.length = s.size := rfl
    have hlt : i < (quoteL s.data.toList).length := by omega
    have hp := quoteL_printable s.data.toList _ (List.getElem_mem hlt)
    rw [modcertlaw03_LexerQuotes.l0, if_pos (by omega), if_pos (by omega), if_pos (by rw [ofL_size]; omega), bt_ofL hlt, if_neg (by omega), if_neg (by omega), wr64 (by omega)]
    exact quotes_loop s hs d (i + 1) k (by omega) (by omega)
theorem LexerQuotes : modcertlaw03_LexerQuotes.Pure := by
  intro a0 h0
  by_cases hbig : (a0.size : Int) > 1000
  · refine ⟨0, ?_⟩
    unfold modcertlaw03_LexerQuotes.f modcertlaw03_awake.f
    rw [Option.bind_some, if_pos rfl, if_pos hbig]
  · refine ⟨(quoteL a0.data.toList).length + 1, ?_⟩
    unfold modcertlaw03_LexerQuotes.f modcertlaw03_awake.f
    rw [Option.bind_some, if_pos rfl, if_neg hbig, Quote_some a0 (by omega), Option.bind_some, ofL_size]
    exact quotes_loop a0 (by omega) (quoteL a0.data.toList).length 0 _ (by omega) (by omega)
end Go.Proofs.YtmndicibakaceaaDoor.Pr
