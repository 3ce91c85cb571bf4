/- The plain law of LexerNames: what the printed function answers is true. -/
import Derived.Test.YtmndicibakaceaaDoorPuNm
import Derived.Test.YtmndicibakaceaaDoorPr18
namespace Go.Proofs.YtmndicibakaceaaDoor.Pr
open Go.RowKit Go.Proofs.YtmndicibakaceaaDoorW.PrintWords Go.Proofs.YtmndicibakaceaaDoorW.PrintLast Go.Proofs.YtmndicibakaceaaDoorW.PrintMore
theorem LexerNames : modcertlaw03_LexerNames.Pure := by
  intro a0 h0
  refine ⟨1000, ?_⟩
  unfold modcertlaw03_LexerNames.f modcertlaw03_awake.f
  rw [Option.bind_some, if_pos rfl]
  by_cases hbig : (a0.size : Int) > 300
  · rw [if_pos hbig]
  · have hM := Major_some a0 (by omega) 1000 (by omega)
    have hR := refMajor_some a0 (by omega) 1000 (by omega)
    have hP : lexer_IsPath.f 1000 a0 = some ((majorOf a0).2 == 0) := by unfold lexer_IsPath.f; rw [hM]; rfl
    have hQ : modcertref03_IsPath.f 1000 a0 = some ((majorOf a0).2 == 0) := by unfold modcertref03_IsPath.f; rw [hR]; rfl
    rw [if_neg hbig, hM, Option.bind_some, hR, Option.bind_some, IsName_some a0 (by omega), Option.bind_some, refName_some a0 (by omega) 1000 (by omega) (by omega), Option.bind_some, if_pos (by simp),
      IsType_some a0 (by omega), Option.bind_some, refType_some a0 (by omega) 1000 (by omega), Option.bind_some, if_pos (by simp), hP, Option.bind_some, hQ, Option.bind_some, if_pos (by simp), if_pos rfl]
    simp
end Go.Proofs.YtmndicibakaceaaDoor.Pr
