/- CertificateOrders: it returns true for every argument (four curves; three numbers; two bytes), and the arguments read behind the call as they read before. No condition. -/
import Derived.Test.YtabfhoipclbeeaaQVBf
import Derived.JoinedOf
import Derived.JoinedAt
set_option linter.unusedSimpArgs false
set_option linter.unusedVariables false
set_option linter.unusedSectionVars false
set_option maxRecDepth 3000
namespace Go.Proofs.Ytabfhoipclbeeaa.CertificateOrders
open Go.ChangeShapes Go.WideShapes Go.ChangeAt Go.RowKit
set_option maxRecDepth 100000 in
theorem lifted (os : Os) (started : os.Started) (H : Type) (enc : TypeId × Value → H) :
    ReturnsInHanded {} Try.checked os 5 .any (Rows.certificateOrdersSpec.pre6 enc Try.prog Try.f5 Rows.certificateOrdersRow.domain false) (Rows.certificateOrdersSpec.post enc Try.prog Try.f5 false true false false) := by
  refine returnsInHanded_of_change (C := Try.checked) Arg.own started (by kernel_rfl) Try.func5
    (ChangeSpec.witness6 (enc := enc) (C := Try.checked) false ⟨#[], #[.agg #[.slice none 0 0, .int .i64 0, .slice none 0 0, .int .i64 0, .slice none 0 0, .int .i64 0, .slice none 0 0, .int .i64 0], .agg #[.int .i64 0, .int .i64 0, .int .i64 0], .agg #[.int .u8 0, .int .u8 0]], []⟩ 8 (by kernel_rfl) (by kernel_rfl) (by kernel_rfl) (by kernel_rfl)) ?_
  intro W base args ds gs before hval0 hW hcnd _
  have hval : ∀ (j : Nat) t v, Try.f5.params[j]? = some t → args[j]? = some v → Value.okWide Try.prog W .any base t v := hval0
  have hW' := hW
  obtain ⟨p, q, hA0, hV, rfl, hfz, hnd⟩ := hW
  have hA : DataW.TrodAll enc Try.prog W 0 (fun _ => true) true Try.f5.params.toList args.toList ds p := hA0
  rw [Try.params5] at hA hval
  obtain ⟨v0, vs0, d0, ds0, p0, q0, hargs, rfl, rfl, h0, r0⟩ := trodAll_cons hA
  obtain ⟨v1, vs1, d1, ds1, p1, q1, rfl, rfl, rfl, h1, r1⟩ := trodAll_cons r0
  obtain ⟨v2, vs2, d2, ds2, p2, q2, rfl, rfl, rfl, h2, r2⟩ := trodAll_cons r1
  obtain ⟨rfl, rfl, rfl⟩ := trodAll_nil r2
  obtain rfl : args = #[v0, v1, v2] := by cases args; simp_all
  obtain ⟨rfl, rfl⟩ := trodVars_none hV
  have k0 := h0
  have lt0 : ∀ x ∈ p0, x.block < W.heap.size := by obtain ⟨m, hm⟩ := k0; exact DataW.trod_lt m _ _ _ hm
  have k1 := h1
  have lt1 : ∀ x ∈ p1, x.block < W.heap.size := by obtain ⟨m, hm⟩ := k1; exact DataW.trod_lt m _ _ _ hm
  have k2 := h2
  have lt2 : ∀ x ∈ p2, x.block < W.heap.size := by obtain ⟨m, hm⟩ := k2; exact DataW.trod_lt m _ _ _ hm
  obtain ⟨A0, B0, C0, D0, aa0, ab0, ac0, ad0, ca0, cb0, cc0, cd0, rfl, ha0, hb0, hc0, hd0, ⟨la0, ma0⟩, ⟨lb0, mb0⟩, ⟨lc0, mc0⟩, ld0, md0⟩ := four_arg (hval 0 _ v0 rfl rfl) h0
  obtain ⟨x1, y1, z1, rfl, wx1, wy1, wz1⟩ := nums_arg (hval 1 _ v1 rfl rfl) h1
  obtain ⟨x2, y2, rfl, wx2, wy2⟩ := twoU_arg (hval 2 _ v2 rfl rfl) h2
  clear hA0 hval0
  refine (orders57_law ⟨A0, B0, x1, y1, z1, 0⟩ ⟨C0, D0, x1, y1, z1, 0⟩ x2 y2 wx2 wy2 wy1 wz1 aa0 ab0 ac0 ad0 ca0 cb0 cc0 cd0 la0 ma0 lb0 mb0 lc0 mc0 ld0 md0 W ha0 hb0 hc0 hd0).mono fun e W' ⟨u, he, bel, hu⟩ => ?_
  subst he hu
  exact ⟨_, rfl, _, _, _, [], _, [], hW', trodAll_mk1 (shut_bool Try.underlying4 _), (trodAll_cons_mk (Below.trod Arg.laidOut (by kernel_rfl) (of_decide_eq_true (by kernel_rfl)) k0 bel lt0) (trodAll_cons_mk (Below.trod Arg.laidOut (by kernel_rfl) (of_decide_eq_true (by kernel_rfl)) k1 bel lt1) (trodAll_cons_mk (Below.trod Arg.laidOut (by kernel_rfl) (of_decide_eq_true (by kernel_rfl)) k2 bel lt2) trodAll_mk0))), rfl, bel.frame _, fun h => by cases h⟩
theorem over : Rows.certificateOrdersRow.holds Try.pinned (OpenSpec.ofChange Rows.certificateOrdersSpec) :=
  OpenClaim.holds_of_wide 5 Try.f5 rfl rfl rfl rfl rfl rfl rfl ⟨rfl, rfl, rfl, rfl, rfl⟩ rfl rfl rfl rfl rfl (by kernel_rfl) Try.func5 (by kernel_rfl)
    (of_decide_eq_true (by kernel_rfl)) (by unfold Func.isWrapper; first | (rw [if_pos (by decide +kernel)]; kernel_rfl) | (rw [if_neg (by decide +kernel)]; exact ⟨rfl, rfl⟩))
    (fun os started H enc _ => lifted os started H enc)
theorem proved : Rows.CertificateOrdersSaid := over
#print axioms proved
end Go.Proofs.Ytabfhoipclbeeaa.CertificateOrders
