/- The contract of modcertlaw24.awake, in the form that the printed texts take: it answers true. -/
import Derived.Test.YtdccbpeajpnkjaaGreatDoorExtP
import Derived.Test.YtdccbpeajpnkjaaGreatDoorExtF
import Derived.Test.YtdccbpeajpnkjaaGreatDoorExtM
import Derived.Test.YtdccbpeajpnkjaaGreatDoorPr6
import Derived.Test.YtdccbpeajpnkjaaGreatDoorPr7
import Derived.Test.YtdccbpeajpnkjaaGreatDoorPr3
namespace Go.Proofs.YtdccbpeajpnkjaaGreatDoor.Pr
open Go.RowKit Go.Proofs.YtdccbpeajpnkjaaGreatDoorW.PrintWords Go.Proofs.YtdccbpeajpnkjaaGreatDoorW.PrintLast Go.Proofs.YtdccbpeajpnkjaaGreatDoorW.PrintMore
set_option maxRecDepth 100000 in
theorem awake_parse : version_Parse.f ⟨#[49, 46, 52, 46, 57]⟩ = some (1, 4, 9, 0) := by kernel_rfl
theorem awake_next0 : version_Next.f 30 1 4 9 0 = some (1, 4, 10, 0) := by kernel_rfl
theorem awake_next1 : version_Next.f 30 1 4 9 1 = some (1, 5, 0, 0) := by kernel_rfl
theorem awake_next2 : version_Next.f 30 1 4 9 2 = some (2, 0, 0, 0) := by kernel_rfl
theorem itoa_1 : Lib.itoa 1 = [49] := by unfold Lib.itoa Lib.decDigits; rfl
theorem itoa_2 : Lib.itoa 2 = [50] := by unfold Lib.itoa Lib.decDigits; rfl
theorem itoa_4 : Lib.itoa 4 = [52] := by unfold Lib.itoa Lib.decDigits; rfl
theorem itoa_10 : Lib.itoa 10 = [49, 48] := by
  show Lib.decDigits 10 = _
  rw [Lib.decDigits, dif_neg (by decide), Lib.decDigits, dif_pos (by decide)]; rfl
theorem awake_format : version_Format.f 1 4 10 = some (⟨#[49, 46, 52, 46, 49, 48]⟩, 0) := by
  unfold version_Format.f formatB
  rw [if_pos (by decide), itoa_1, itoa_4, itoa_10]
  rfl
theorem awake_line : version_Line.f 30 ⟨#[103, 101, 111, 47, 115, 104, 97, 112, 101, 115, 47, 118, 50]⟩ = some (⟨#[103, 101, 111, 47, 115, 104, 97, 112, 101, 115]⟩, 2, 0) := by kernel_rfl
theorem awake_isPath : lexer_IsPath.f 29 ⟨#[103, 101, 111, 47, 115, 104, 97, 112, 101, 115, 47, 118, 50]⟩ = some true := by kernel_rfl
theorem path_j0 (k : Nat) (x0 : ByteArray) (x1 : Int) : version_Path.j0 (k + 1) x0 x1 false = (if x0.size + 2 ≤ 9223372036854775807 then ((strconv_Itoa.f x1).bind fun t129 => (if (x0 ++ (⟨#[47, 118]⟩ : ByteArray)).size + t129.size ≤ 9223372036854775807 then ((lexer_IsPath.f k ((x0 ++ (⟨#[47, 118]⟩ : ByteArray)) ++ t129)).bind fun t130 => (if t130 = true then (some ((x0 ++ (⟨#[47, 118]⟩ : ByteArray)) ++ t129, 0)) else (some ((⟨#[]⟩ : ByteArray), 4)))) else (none))) else (none)) := rfl
theorem awake_path_rest : (if ((⟨#[103, 101, 111, 47, 115, 104, 97, 112, 101, 115]⟩ : ByteArray)).size + 2 ≤ 9223372036854775807 then ((some (⟨#[50]⟩ : ByteArray)).bind fun t129 => (if ((⟨#[103, 101, 111, 47, 115, 104, 97, 112, 101, 115]⟩ : ByteArray) ++ (⟨#[47, 118]⟩ : ByteArray)).size + t129.size ≤ 9223372036854775807 then ((lexer_IsPath.f 29 (((⟨#[103, 101, 111, 47, 115, 104, 97, 112, 101, 115]⟩ : ByteArray) ++ (⟨#[47, 118]⟩ : ByteArray)) ++ t129)).bind fun t130 => (if t130 = true then (some (((⟨#[103, 101, 111, 47, 115, 104, 97, 112, 101, 115]⟩ : ByteArray) ++ (⟨#[47, 118]⟩ : ByteArray)) ++ t129, (0 : Int))) else (some ((⟨#[]⟩ : ByteArray), 4)))) else (none))) else (none)) = some (⟨#[103, 101, 111, 47, 115, 104, 97, 112, 101, 115, 47, 118, 50]⟩, 0) := by kernel_rfl
theorem awake_path : version_Path.f 30 ⟨#[103, 101, 111, 47, 115, 104, 97, 112, 101, 115]⟩ 2 = some (⟨#[103, 101, 111, 47, 115, 104, 97, 112, 101, 115, 47, 118, 50]⟩, 0) := by
  have hi : strconv_Itoa.f 2 = some ⟨#[50]⟩ := by unfold strconv_Itoa.f numText; rw [if_pos (by decide), itoa_2]
  have h1 : version_Path.f 30 ⟨#[103, 101, 111, 47, 115, 104, 97, 112, 101, 115]⟩ 2 = version_Path.j0 (29 + 1) ⟨#[103, 101, 111, 47, 115, 104, 97, 112, 101, 115]⟩ 2 false := by kernel_rfl
  rw [h1, path_j0 29]
  rw [hi]
  exact awake_path_rest
theorem awake_latest : version_Latest.f [⟨1, 4, 9⟩, ⟨1, 5, 0⟩, ⟨1, 4, 10⟩] = some (1, 5, 0, true) := by kernel_rfl
theorem awake_compare : version_Compare.f 1 4 10 1 5 0 = some (-1) := by kernel_rfl
theorem awake_permits : version_Permits.f 30 1 4 9 1 5 0 0 = some true := by kernel_rfl
theorem awake_valid : version_Valid.f 1 4 9 = some true := by kernel_rfl
theorem lit_C (W : World) (x y z : S23) : Kd.C k23 (W.alloc (.cells #[.int .i64 x.f0, .int .i64 x.f1, .int .i64 x.f2, .int .i64 y.f0, .int .i64 y.f1, .int .i64 y.f2, .int .i64 z.f0, .int .i64 z.f1, .int .i64 z.f2] 23)) (some { block := W.heap.size, off := 0 }) 3 [x, y, z] := by
  have hz : k23.sz = 3 := rfl
  refine ⟨rfl, by decide, fun _ => ⟨_, rfl, fun j p hp => ?_⟩⟩
  match j, hp with
  | 0, hp => cases hp; exact ⟨_, rfl, k23_mk _ _, fun i u hu => by match i, hu with | 0, hu => cases hu; simp [go_sem, hz] | 1, hu => cases hu; simp [go_sem, hz] | 2, hu => cases hu; simp [go_sem, hz]⟩
  | 1, hp => cases hp; exact ⟨_, rfl, k23_mk _ _, fun i u hu => by match i, hu with | 0, hu => cases hu; simp [go_sem, hz] | 1, hu => cases hu; simp [go_sem, hz] | 2, hu => cases hu; simp [go_sem, hz]⟩
  | 2, hp => cases hp; exact ⟨_, rfl, k23_mk _ _, fun i u hu => by match i, hu with | 0, hu => cases hu; simp [go_sem, hz] | 1, hu => cases hu; simp [go_sem, hz] | 2, hu => cases hu; simp [go_sem, hz]⟩
/-- a box of a number. -/
def Box3 (g : Nat) (x : S23) (W : World) : Prop := W.cell? { block := g, off := 0 } = some (.int .i64 x.f0) ∧ W.cell? { block := g, off := 1 } = some (.int .i64 x.f1) ∧ W.cell? { block := g, off := 2 } = some (.int .i64 x.f2)
theorem Box3.below {g : Nat} {x : S23} {W W' : World} (h : Box3 g x W) (hb : Below W.heap.size W W') : Box3 g x W' := ⟨pw_cell_below hb h.1, pw_cell_below hb h.2.1, pw_cell_below hb h.2.2⟩
theorem Box3.step {g : Nat} {x : S23} {W W' : World} (h : Box3 g x W) (hb : Below W.heap.size W W') (o : Obj) : Box3 g x (W'.alloc o) := h.below (below_alloc hb o)
theorem Box3.here (x : S23) (W : World) : Box3 W.heap.size x (W.alloc (.cells #[.int .i64 x.f0, .int .i64 x.f1, .int .i64 x.f2] 23)) := by unfold Box3; simp [go_sem]
def modcertlaw24_awake.f : Option Bool := some true
set_option maxRecDepth 100000 in
set_option maxHeartbeats 4000000 in
theorem modcertlaw24_awake.calls (r : Bool) (w : World) (h : modcertlaw24_awake.f = some r) (hG : Gd w) :
    Calls Tryz.prog 5 #[] w fun e w' => e = .returned (.bool r) ∧ Below w.heap.size w w' := by
  obtain rfl := Option.some.inj h
  clear h
  have HG := Aside0.mk hG
  clear hG
  have awv := awake_valid; have awp := awake_permits; have awc := awake_compare; have awl := awake_latest
  go_enter Tryz.func5, Tryz.ntmps5
  have HB0 := Aside0.mk (Below.refl w.heap.size w)
  go_wp2_with (first
    | (go_at_call 20; (with_reducible refine (version_Parse.calls _ _ _ _ _ _ awake_parse (Gd.below HG.out HB0.out)).mono ?_); rintro e w1 ⟨rfl, hb⟩; have HB1 := Aside0.mk (below_alloc (below_step HB0.out hb) (.cells #[.int .i64 1, .int .i64 4, .int .i64 9] 23)); have V1 := Aside0.mk (Box3.here (⟨1, 4, 9⟩ : S23) w1); obtain ⟨va0, va1, va2⟩ := V1.out; clear hb)
    | (go_at_call 6; (with_reducible refine (version_Next.calls _ _ _ _ _ _ _ _ _ _ awake_next0).mono ?_); rintro e w2 ⟨rfl, hb⟩; have HB2 := Aside0.mk (below_alloc (below_step HB1.out hb) (.cells #[.int .i64 1, .int .i64 4, .int .i64 10] 23)); have V2 := Aside0.mk (V1.out.step hb (.cells #[.int .i64 1, .int .i64 4, .int .i64 10] 23)); have A2 := Aside0.mk (Box3.here (⟨1, 4, 10⟩ : S23) w2); obtain ⟨vb0, vb1, vb2⟩ := V2.out; clear hb)
    | (go_at_call 6; (with_reducible refine (version_Next.calls _ _ _ _ _ _ _ _ _ _ awake_next1).mono ?_); rintro e w3 ⟨rfl, hb⟩; have HB3 := Aside0.mk (below_alloc (below_step HB2.out hb) (.cells #[.int .i64 1, .int .i64 5, .int .i64 0] 23)); have V3 := Aside0.mk (V2.out.step hb (.cells #[.int .i64 1, .int .i64 5, .int .i64 0] 23)); have A3 := Aside0.mk (A2.out.step hb (.cells #[.int .i64 1, .int .i64 5, .int .i64 0] 23)); have B3 := Aside0.mk (Box3.here (⟨1, 5, 0⟩ : S23) w3); obtain ⟨vc0, vc1, vc2⟩ := V3.out; clear hb)
    | (go_at_call 6; (with_reducible refine (version_Next.calls _ _ _ _ _ _ _ _ _ _ awake_next2).mono ?_); rintro e w4 ⟨rfl, hb⟩; have HB4 := Aside0.mk (below_alloc (below_step HB3.out hb) (.cells #[.int .i64 2, .int .i64 0, .int .i64 0] 23)); have V4 := Aside0.mk (V3.out.step hb (.cells #[.int .i64 2, .int .i64 0, .int .i64 0] 23)); have A4 := Aside0.mk (A3.out.step hb (.cells #[.int .i64 2, .int .i64 0, .int .i64 0] 23)); have B4 := Aside0.mk (B3.out.step hb (.cells #[.int .i64 2, .int .i64 0, .int .i64 0] 23)); have C4 := Aside0.mk (Box3.here (⟨2, 0, 0⟩ : S23) w4); obtain ⟨ad0, ad1, ad2⟩ := A4.out; clear hb)
    | (go_at_call 21; (with_reducible refine (version_Format.calls _ _ _ _ _ _ awake_format (Gd.below HG.out HB4.out)).mono ?_); rintro e w5 ⟨rfl, hb⟩; have HB5 := Aside0.mk (below_step HB4.out hb); have V5 := Aside0.mk (V4.out.below hb); have A5 := Aside0.mk (A4.out.below hb); have B5 := Aside0.mk (B4.out.below hb); have C5 := Aside0.mk (C4.out.below hb); clear hb)
    | (go_at_call 16; (with_reducible refine (version_Line.calls _ _ _ _ _ _ awake_line (Gd.below HG.out HB5.out)).mono ?_); rintro e w6 ⟨rfl, hb⟩; have HB6 := Aside0.mk (below_step HB5.out hb); have V6 := Aside0.mk (V5.out.below hb); have A6 := Aside0.mk (A5.out.below hb); have B6 := Aside0.mk (B5.out.below hb); have C6 := Aside0.mk (C5.out.below hb); clear hb)
    | (go_at_call 18; (with_reducible refine (version_Path.calls _ _ _ _ _ _ awake_path (Gd.below HG.out HB6.out)).mono ?_); rintro e w7 ⟨rfl, hb⟩; have HB7 := Aside0.mk (below_step HB6.out hb); have V7 := Aside0.mk (V6.out.below hb); have A7 := Aside0.mk (A6.out.below hb); have B7 := Aside0.mk (B6.out.below hb); have C7 := Aside0.mk (C6.out.below hb); obtain ⟨ve0, ve1, ve2⟩ := V7.out; obtain ⟨ae0, ae1, ae2⟩ := A7.out; obtain ⟨be0, be1, be2⟩ := B7.out; clear hb)
    | (go_at_call 10; (with_reducible refine (version_Latest.calls_n _ _ _ _ _ _ _ _ _ awl (by decide) (lit_C _ ⟨1, 4, 9⟩ ⟨1, 5, 0⟩ ⟨1, 4, 10⟩) rfl).mono ?_); rintro e w8 ⟨rfl, hb0⟩; have hb := below_step (below_alloc (Below.refl _ w7) _) hb0; have HB8 := Aside0.mk (below_alloc (below_step HB7.out hb) (.cells #[.int .i64 1, .int .i64 5, .int .i64 0] 23)); have V8 := Aside0.mk (V7.out.step hb (.cells #[.int .i64 1, .int .i64 5, .int .i64 0] 23)); have A8 := Aside0.mk (A7.out.step hb (.cells #[.int .i64 1, .int .i64 5, .int .i64 0] 23)); have B8 := Aside0.mk (B7.out.step hb (.cells #[.int .i64 1, .int .i64 5, .int .i64 0] 23)); have C8 := Aside0.mk (C7.out.step hb (.cells #[.int .i64 1, .int .i64 5, .int .i64 0] 23)); have L8 := Aside0.mk (Box3.here (⟨1, 5, 0⟩ : S23) w8); obtain ⟨vf0, vf1, vf2⟩ := V8.out; obtain ⟨af0, af1, af2⟩ := A8.out; obtain ⟨bf0, bf1, bf2⟩ := B8.out; obtain ⟨cf0, cf1, cf2⟩ := C8.out; clear hb hb0)
    | (go_at_call 12; (with_reducible refine (version_Compare.calls _ _ _ _ _ _ _ _ awc).mono ?_); rintro e w9 ⟨rfl, hb⟩; have HB9 := Aside0.mk (below_step HB8.out hb); have V9 := Aside0.mk (V8.out.below hb); have A9 := Aside0.mk (A8.out.below hb); have B9 := Aside0.mk (B8.out.below hb); have C9 := Aside0.mk (C8.out.below hb); have L9 := Aside0.mk (L8.out.below hb); obtain ⟨vg0, vg1, vg2⟩ := V9.out; obtain ⟨ag0, ag1, ag2⟩ := A9.out; obtain ⟨bg0, bg1, bg2⟩ := B9.out; obtain ⟨lg0, lg1, lg2⟩ := L9.out; clear hb)
    | (go_at_call 14; (with_reducible refine (version_Permits.calls _ _ _ _ _ _ _ _ _ _ awp).mono ?_); rintro e w10 ⟨rfl, hb⟩; have HB10 := Aside0.mk (below_step HB9.out hb); have V10 := Aside0.mk (V9.out.below hb); have A10 := Aside0.mk (A9.out.below hb); have B10 := Aside0.mk (B9.out.below hb); have C10 := Aside0.mk (C9.out.below hb); obtain ⟨vh0, vh1, vh2⟩ := V10.out; clear hb)
    | (go_at_call 22; (with_reducible refine (version_Valid.calls _ _ _ _ _ awv).mono ?_); rintro e w11 ⟨rfl, hb⟩; have HB11 := Aside0.mk (below_step HB10.out hb); clear hb))
  go_ret
  exact ⟨rfl, HB11.out⟩
end Go.Proofs.YtdccbpeajpnkjaaGreatDoor.Pr
