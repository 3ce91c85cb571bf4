/- The contract of modcertref03.Segments, in the form that the printed texts take: the parts of a path; condition: where '.f' tells 'some'. -/
import Derived.BigRegion
import Derived.Lib.Hide
import Derived.Test.YtdccbpeajpnkjaaGreatDoorExtA
namespace Go.Proofs.YtdccbpeajpnkjaaGreatDoor.Pr
open Go.RowKit Go.Proofs.YtdccbpeajpnkjaaGreatDoorW.PrintWords Go.Proofs.YtdccbpeajpnkjaaGreatDoorW.PrintLast Go.Proofs.YtdccbpeajpnkjaaGreatDoorW.PrintMore
/-- the parts of the first k bytes: all but the last one, and the last one. -/
def segState (s : ByteArray) : Nat → List ByteArray × ByteArray
  | 0 => ([], ⟨#[]⟩)
  | k + 1 => if bt s k = 47 then ((segState s k).1 ++ [(segState s k).2], ⟨#[]⟩) else ((segState s k).1, (segState s k).2 ++ strOfNums [bt s k])
theorem segState_len (s : ByteArray) : ∀ k, (segState s k).1.length ≤ k ∧ (segState s k).2.size ≤ k
  | 0 => ⟨Nat.le_refl _, Nat.le_refl _⟩
  | k + 1 => by
    have h := segState_len s k
    unfold segState
    split
    · exact ⟨by simp; omega, by simp [ByteArray.size]⟩
    · refine ⟨by show (segState s k).1.length ≤ _; omega, ?_⟩
      show ((segState s k).2 ++ strOfNums [bt s k]).size ≤ _
      rw [ByteArray.size_append]
      have : (strOfNums [bt s k]).size = 1 := rfl
      omega
def modcertref03_Segments.f (a0 : ByteArray) : Option (List ByteArray) := if a0.size ≤ 1000000000 then some ((segState a0 a0.size).1 ++ [(segState a0 a0.size).2]) else none
theorem info_str : (Tryz.prog.info? 9).map (fun i => (i.zero, i.size, i.bytes)) = some (some (.string ⟨#[]⟩), 1, 16) := by kernel_rfl
theorem bt_natS (s : ByteArray) (k : Nat) : ∀ h : k < s.size, ((s[k]'h).toNat : Int) = bt s (k : Int) := fun h => by
  have := bt_at s (k : Int) (by simpa using h)
  simpa using this
set_option maxHeartbeats 2000000 in
set_option maxRecDepth 100000 in
theorem modcertref03_Segments.calls (a0 : ByteArray) (r : List ByteArray) (w : World) (h : modcertref03_Segments.f a0 = some r) :
    Calls Tryz.prog 50 #[.string a0] w fun e w' => ∃ v0_ : Value, e = .returned (v0_) ∧ Kd.R Kd.string 9 w' w.heap.size (fun _ => True) v0_ r ∧ Below w.heap.size w w' := by
  obtain ⟨i0, hi, hz0, hz1, hz2⟩ := info_parts info_str
  unfold modcertref03_Segments.f at h
  split at h
  · rename_i hs
    have h' := Option.some.inj h
    have H := Lib.hid h'
    clear h h'
    have hs2 : a0.size ≤ 9223372036854775807 := by omega
    go_enter Tryz.func50, Tryz.ntmps50
    go_wp2
    go_loopw [3, 4] (fun v3 v4 wr => ∃ k : Nat, k ≤ a0.size ∧ v4 = .int .i64 k ∧ Aside0 (wr.ownsRow w.heap.size 9 1 v3 ((segState a0 k).1.length + 1) (((segState a0 k).1 ++ [(segState a0 k).2]).map Value.string)) ∧ Aside0 (Below w.heap.size w wr)) (fun _ v4 _ => a0.size - (intOf v4).toNat)
    case atStart => exact ⟨0, Nat.zero_le _, rfl, ⟨World.ownsRow_lit (base := w.heap.size) (e := 9) (size := 1) w #[.string ⟨#[]⟩] 1 (Nat.le_refl _) (by decide) (by simp)⟩, ⟨(Below.refl _ _).alloc (Nat.le_refl _) _⟩⟩
    case round =>
      obtain ⟨k, hk, rfl, HO, HB⟩ := hrel
      by_cases hlt : k < a0.size
      · have hx := bt_natS a0 k
        have hb0 := (bt_range a0 k).1
        have hb1 := (bt_range a0 k).2
        have hl := segState_len a0 k
        have HL1 := hl.1
        have HL2 := hl.2
        clear hl
        have hBs := HB.out.size
        by_cases hc : bt a0 k = 47
        · have hst := Aside0.mk (show segState a0 (k + 1) = ((segState a0 k).1 ++ [(segState a0 k).2], ⟨#[]⟩) from by rw [segState]; exact if_pos hc)
          have hc1 : (bt a0 k == 47) = true := beq_iff_eq.2 hc
          clear hc
          go_wp2_with (at_builtin; refine wpList_append_own _ rfl _ _ 55 rfl w.heap.size 9 i0 (.string ⟨#[]⟩) 1 16 Tryz.underlying55 hi hz0 hz1 hz2 rfl (by decide) _ _ _ rfl (HO.out.alloc _) ⟨wr.heap.size, 0, none⟩ 1 1 [.string ⟨#[]⟩] rfl rfl ?c1 ?c2 ?c3 ?c4 ?c5 ?_)
          case c1 => exact cell_one_new _ _ _
          case c2 => intro u hu; simp at hu; subst hu; rfl
          case c3 => unfold maxLen; omega
          case c4 => omega
          case c5 => simp; omega
          intro v' w1 hown' hgrow _
          go_wp2
          go_roundw
          case rel => exact ⟨k + 1, by omega, by go_num, ⟨by rw [hst.out]; simpa using hown'⟩, ⟨(HB.out.alloc hBs _).grown hgrow (by simp; omega) (fun q hq => (HO.out.lt q hq).1)⟩⟩
          case measure => simp [intOf]; omega
        · have hst := Aside0.mk (show segState a0 (k + 1) = ((segState a0 k).1, (segState a0 k).2 ++ strOfNums [bt a0 k]) from by rw [segState]; exact if_neg hc)
          have hc1 : (bt a0 k == 47) = false := beq_eq_false_iff_ne.2 hc
          clear hc
          obtain ⟨g, cap, rfl, hg, hgl⟩ := HO.out.form (by omega)
          have hcf : wr.cell? ⟨g, (segState a0 k).1.length, none⟩ = some (.string (segState a0 k).2) ∧ wr.frozen? ⟨g, (segState a0 k).1.length, none⟩ = false := by
            constructor
            · have := HO.out.cells (g := g) rfl (segState a0 k).1.length (.string (segState a0 k).2) (by simp)
              rwa [add_plain] at this
            · rcases HO.out.2 with ⟨h', _⟩ | ⟨g', cap', cur, h', _, hh, _⟩
              · cases h'
              · have : g = g' := by injection h' with h'; injection h' with h'; injection h' with h'
                subst this
                simp [World.frozen?, hh]
          obtain ⟨hcell, hfz⟩ := hcf
          generalize (segState a0 k).1 = I at *
          generalize (segState a0 k).2 = L at *
          have hi0 : 0 ≤ (I.length : Int) := Int.natCast_nonneg _
          have hw1 : IntKind.i64.wrap (I.length : Int) = (I.length : Int) := IntWalk.i64_in _ (by omega)
          have hconv : (convert 71 9 (.slice (some ⟨wr.heap.size, 0, none⟩) 1 1)).run Tryz.prog (wr.alloc (.cells #[.int .u8 (bt a0 k)] 5)).drew = .ok (.string (strOfNums [bt a0 k])) (wr.alloc (.cells #[.int .u8 (bt a0 k)] 5)).drew :=
            run_convert_bytes_arg (P := Tryz.prog) _ 71 5 Tryz.underlying71 Tryz.underlying5 wr.heap.size 0 1 1 [bt a0 k] rfl (fun i hi => by
              obtain rfl : i = 0 := by omega
              show ((wr.alloc (.cells #[.int .u8 (bt a0 k)] 5)).cell? ⟨wr.heap.size, 0 + 0, none⟩) = _
              simp) 9 Tryz.underlying9
          have hC1 : (strOfNums [bt a0 k]).size ≤ 1 := Nat.le_refl 1
          generalize strOfNums [bt a0 k] = C at *
          have hLs : L.size + C.size ≤ 9223372036854775807 := by omega
          have hLs0 := eq_true hLs
          have hLs1 : decide (L.size + C.size ≤ 9223372036854775807) = true := decide_eq_true hLs
          have hLs2 : (9223372036854775807 < L.size + C.size) = False := eq_false (Nat.not_lt.2 hLs)
          have hI1 : (I.length : Int) < (I.length : Int) + 1 := by omega
          clear hLs
          go_wp2
          go_region
          have hS := (HO.out.stored I.length (.string (L ++ C)))
          have HS := Aside0.mk hS.1
          have HG1 := Aside0.mk hS.2
          clear hS
          all_goals
            go_wp2
            go_roundw
            case rel =>
              refine ⟨k + 1, by omega, by go_num, ?_, ?_⟩
              · rw [hst.out]
                exact ⟨pw_own_below (by simpa using HS.out) (below_drew (below_alloc (Below.refl _ _) _))⟩
              · exact ⟨below_drew (Below.alloc (Below.setCell (p := ⟨g, I.length, none⟩) HB.out hg _) (by simpa using hBs) _)⟩
            case measure => simp [intOf]; omega
      · obtain rfl : k = a0.size := by omega
        go_wp2
        go_ret
        refine ⟨_, rfl, ?_, HB.out⟩
        rw [← H.out]
        exact Kd.R_of_own (enc := Value.string) (h1 := fun _ => rfl) (by simpa [encs] using HO.out) (fun _ _ => trivial)
  · cases h
end Go.Proofs.YtdccbpeajpnkjaaGreatDoor.Pr
