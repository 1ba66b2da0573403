/- TopCertificatesBound: it returns true for every argument (a trace of small numbers; a trace of small numbers), and the arguments read behind the call as they read before. No condition. -/
import Derived.Test.YtabfhoipclbeeaaQVCe
import Derived.JoinedOf
import Derived.JoinedAt
import Derived.JoinedCond
set_option linter.unusedSimpArgs false
set_option linter.unusedVariables false
set_option linter.unusedSectionVars false
set_option maxRecDepth 3000
namespace Go.Proofs.Ytabfhoipclbeeaa.TopCertificatesBoundUpto
open Go.ChangeShapes Go.WideShapes Go.ChangeAt Go.RowKit
set_option maxRecDepth 100000 in
theorem lifted (os : Os) (started : os.Started) (H : Type) (enc : TypeId × Value → H) (F : Stop.Interp) :
    ReturnsInHanded {} Try.checked os 12 .any ((Rows.OpenSpec.upto Rows.topCertificatesBoundSpec).pre6 enc Try.prog Try.f12 Rows.topCertificatesBoundUptoRow.domain false) (((Rows.OpenSpec.upto Rows.topCertificatesBoundSpec).at F).post enc Try.prog Try.f12 false true false false) := by
  refine returnsInHanded_of_cond (C := Try.checked) (s := (Rows.OpenSpec.upto Rows.topCertificatesBoundSpec)) (k := Rows.uptoSmall) rfl Arg.own started (by kernel_rfl) Try.func12
    (OpenSpec.witness (enc := enc) (C := Try.checked) (s := (Rows.OpenSpec.upto Rows.topCertificatesBoundSpec)) (k := Rows.uptoSmall) rfl false ⟨#[], #[.agg #[.slice none 0 0, .slice none 0 0, .int .u8 0, .int .u8 0, .int .u8 0], .agg #[.slice none 0 0, .slice none 0 0, .int .u8 0, .int .u8 0, .int .u8 0]], []⟩ 8 (by kernel_rfl) (by kernel_rfl) (by kernel_rfl)
      (x := ([.agg [.nil, .nil, .lit (.int .u8 0), .lit (.int .u8 0), .lit (.int .u8 0)], .agg [.nil, .nil, .lit (.int .u8 0), .lit (.int .u8 0), .lit (.int .u8 0)]], [], [])) (by kernel_rfl) rfl (by kernel_rfl)) ?_
  intro W base args ds gs before hval0 hW hcnd hk _
  have hval : ∀ (j : Nat) t v, Try.f12.params[j]? = some t → args[j]? = some v → Value.okWide Try.prog W .any base t v := hval0
  have hW' := hW
  obtain ⟨p, q, hA0, hV, rfl, hfz, hnd⟩ := hW
  have hA : DataW.TrodAll enc Try.prog W 0 (fun _ => true) true Try.f12.params.toList args.toList ds p := hA0
  rw [Try.params12] at hA hval
  obtain ⟨v0, vs0, d0, ds0, p0, q0, hargs, rfl, rfl, h0, r0⟩ := trodAll_cons hA
  obtain ⟨v1, vs1, d1, ds1, p1, q1, rfl, rfl, rfl, h1, r1⟩ := trodAll_cons r0
  obtain ⟨rfl, rfl, rfl⟩ := trodAll_nil r1
  obtain rfl : args = #[v0, v1] := by cases args; simp_all
  obtain ⟨rfl, rfl⟩ := trodVars_none hV
  have hk2 := of_decide_eq_true hk
  simp only [List.append_nil, Rows.uptoBulkAll] at hk2
  have k0 := h0
  have lt0 : ∀ x ∈ p0, x.block < W.heap.size := by obtain ⟨m, hm⟩ := k0; exact DataW.trod_lt m _ _ _ hm
  have k1 := h1
  have lt1 : ∀ x ∈ p1, x.block < W.heap.size := by obtain ⟨m, hm⟩ := k1; exact DataW.trod_lt m _ _ _ hm
  obtain ⟨xs0, cs0, x0, y0, z0, aa0, ab0, ca0, cb0, rfl, ha0, hb0, hs0⟩ := play_arg (hval 0 _ v0 rfl rfl) h0 (by omega)
  obtain ⟨xs1, cs1, x1, y1, z1, aa1, ab1, ca1, cb1, rfl, ha1, hb1, hs1⟩ := play_arg (hval 1 _ v1 rfl rfl) h1 (by omega)
  clear hA0 hval0
  refine (bound29_law xs0 cs0 x0 y0 z0 hs0 xs1 cs1 x1 y1 z1 hs1 aa0 ab0 aa1 ab1 ca0 cb0 ca1 cb1 W ha0 hb0 ha1 hb1).mono fun e W' ⟨u, he, bel, hu⟩ => ?_
  subst he hu
  exact ⟨_, rfl, _, _, _, [], _, [], hW', trodAll_mk1 (shut_bool Try.underlying4 _), (trodAll_cons_mk (Below.trod Arg.laidOut (by kernel_rfl) (of_decide_eq_true (by kernel_rfl)) k0 bel lt0) (trodAll_cons_mk (Below.trod Arg.laidOut (by kernel_rfl) (of_decide_eq_true (by kernel_rfl)) k1 bel lt1) trodAll_mk0)), rfl, bel.frame _, fun h => by cases h⟩
theorem over : Rows.topCertificatesBoundUptoRow.holds Try.pinned (Rows.OpenSpec.upto Rows.topCertificatesBoundSpec) :=
  OpenClaim.holds_of_cond 12 Try.f12 rfl rfl rfl rfl rfl rfl rfl ⟨rfl, rfl, rfl, rfl, rfl⟩ rfl rfl rfl rfl rfl (by kernel_rfl) Try.func12 (by kernel_rfl)
    (of_decide_eq_true (by kernel_rfl)) (by unfold Func.isWrapper; first | (rw [if_pos (by decide +kernel)]; kernel_rfl) | (rw [if_neg (by decide +kernel)]; exact ⟨rfl, rfl⟩))
    (fun os started H enc _ F => lifted os started H enc F)
theorem proved : Rows.TopCertificatesBoundUptoSaid := over
#print axioms proved
end Go.Proofs.Ytabfhoipclbeeaa.TopCertificatesBoundUpto
