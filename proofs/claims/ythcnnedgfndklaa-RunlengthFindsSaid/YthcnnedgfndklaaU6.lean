/- runlength: number and sector of a reader. -/
import Derived.Test.YthcnnedgfndklaaU5
import Derived.Test.YthcnnedgfndklaaU4
set_option linter.unusedSimpArgs false
set_option linter.unusedVariables false
set_option linter.unusedSectionVars false
namespace Go.Proofs.Ythcnnedgfndklaa
open Go.RowKit Go.Shelf
/-- The value with which a reader stops. -/
def fail (e : Int) : List PanicEntry := [{ v := .iface 60 (.agg #[.int .i64 e]), recovered := false }]
theorem row_capB {own : Nat → Prop} {w w0 : World} {bs : List BoxE} {L : List Ent} {Fs : List (World → Prop)} (hM : Mm own w0 bs L Fs w) {e : TypeId} {size : Nat} {a : Option Addr} {m c : Nat} {xs : List Value} (h : (⟨e, size, .slice a m c, m, xs⟩ : Ent) ∈ L) : m ≤ c := by
  rcases (hM.mem.own.own _ h).2 with ⟨h1, h2⟩ | ⟨g, cap, cur, h1, _, _, h2, _⟩
  · simp only at h2; omega
  · simp only [Value.slice.injEq] at h1
    have h3 : m ≤ cap := h2
    omega
section
variable (xs : List Int) (hxb : ∀ x ∈ xs, 0 ≤ x ∧ x < 256) (hlen : xs.length ≤ 1000000) (a0 : Option Addr) (c0 : Nat) (hc0 : xs.length ≤ c0) {own : Nat → Prop} {w0 W : World} {bs : List BoxE} {L : List Ent} {Fs : List (World → Prop)} {b : Nat} {T : TypeId} {mv ov : Value} (hM : Mm own w0 (⟨b, ⟨[.slice a0 xs.length c0, mv, ov]⟩, T⟩ :: bs) L (RdF (Value.int .u8) a0 xs :: Fs) W)
include hxb hlen hc0 hM
set_option maxRecDepth 20000 in
theorem rnum_ok (he : (rdNum xs).2.1 = 0) : Calls Try.prog 38 ⟨[.pointer (some ⟨b, 0, none⟩)]⟩ W (Rtn fun v w' => v = .int .i64 (rdNum xs).1 ∧ ∃ a1 c1, (xs.drop (rdNum xs).2.2).length ≤ c1 ∧
    Mm own w0 (⟨b, ⟨[.slice a1 (xs.drop (rdNum xs).2.2).length c1, mv, ov]⟩, T⟩ :: bs) L (RdF (Value.int .u8) a1 (xs.drop (rdNum xs).2.2) :: RdF (Value.int .u8) a0 xs :: Fs) w') := by
  refine f_start Try.func38 rfl Try.ntmps38 rfl rfl ?_; intro a hF
  (repeat' (first | (with_reducible refine w_seq ?_) | (with_reducible refine c_region ?_) | (with_reducible refine s_nil ?_) | ((with_reducible apply s_callO (f := 43) hF); exact rfl; exact rfl; exact rfl; exact rfl; exact rfl; exact (Int_ok xs hxb hlen a0 c0 hc0 _ _ hM.lt (hM.facts _ (by (repeat (first | exact List.mem_cons_self | refine List.mem_cons_of_mem _ ?_)))) he); clear hF a; rintro v wn a ⟨a1, c1, rfl, hO⟩ hS hF; replace hM := hM.addRows hS hO; clear hS hO; dsimp only [List.cons_append, List.nil_append] at hM) | (with_reducible refine q_then_n ?_) | ((with_reducible apply s_pure hF); exact rfl; exact rfl; exact rfl; (first | exact trivial | omega | decide); clear hF a; intro a hF) | ((with_reducible apply s_load hF hM); exact rfl; exact rfl; (repeat (first | exact List.mem_cons_self | refine List.mem_cons_of_mem _ ?_)); exact rfl; exact rfl; clear hF a; intro a hF) | ((with_reducible apply s_store hF hM); exact rfl; exact rfl; exact rfl; exact rfl; (repeat (first | exact Upd.z | apply Upd.s)); exact rfl; exact rfl; exact rfl; clear hM; intro w hM) | (with_reducible refine w_skip ?_) | (with_reducible refine w_ret ?_) | ((with_reducible apply c_false hF); exact rfl)))
  have hcap := row_capB hM List.mem_cons_self
  replace hM := hM.freezeRow
  (apply f_ret Try.results38 hF hM; (repeat (first | exact RL.nil | (apply RL.tmp; exact rfl) | (apply RL.cell; exact rfl; (repeat (first | exact List.mem_cons_self | refine List.mem_cons_of_mem _ ?_)); exact rfl))); refine Both.mk ?_; dsimp only [resV])
  exact ⟨rfl, a1, c1, hcap, hM⟩
set_option maxRecDepth 20000 in
theorem rnum_err (he : (rdNum xs).2.1 ≠ 0) : Calls Try.prog 38 ⟨[.pointer (some ⟨b, 0, none⟩)]⟩ W (Both (fun _ _ => False) fun c w' => c = fail (rdNum xs).2.1 ∧ ∃ bs' Fs', Mm own w0 (⟨b, bs', T⟩ :: bs) L Fs' w') := by
  refine f_start Try.func38 rfl Try.ntmps38 rfl rfl ?_; intro a hF
  (repeat' (first | (with_reducible refine w_seq ?_) | (with_reducible refine c_region ?_) | (with_reducible refine s_nil ?_) | ((with_reducible apply s_call (f := 43) hF hM); exact rfl; exact rfl; exact rfl; exact rfl; exact rfl; exact (Int_err xs hxb hlen a0 c0 hc0 _ _ hM.lt (hM.facts _ (by (repeat (first | exact List.mem_cons_self | refine List.mem_cons_of_mem _ ?_)))) he); clear hF hM a; rintro v w a rfl - hM hF) | ((with_reducible apply s_pan hF); exact rfl; exact rfl; exact rfl) | (with_reducible refine q_then_p ?_) | (with_reducible refine q_then_n ?_) | ((with_reducible apply s_pure hF); exact rfl; exact rfl; exact rfl; (first | exact trivial | omega | decide); clear hF a; intro a hF) | ((with_reducible apply s_load hF hM); exact rfl; exact rfl; (repeat (first | exact List.mem_cons_self | refine List.mem_cons_of_mem _ ?_)); exact rfl; exact rfl; clear hF a; intro a hF) | ((with_reducible apply c_dec hF); exact rfl; all_goals intro hc; all_goals (try (exfalso; omega)))))
  refine f_panic hF ?_
  exact Both.panic ⟨rfl, _, _, hM⟩
set_option maxRecDepth 20000 in
theorem sec_ok (h8 : 8 ≤ xs.length) : Calls Try.prog 39 ⟨[.pointer (some ⟨b, 0, none⟩)]⟩ W (Rtn fun v w' => v = .agg ((xs.take 8).map (Value.int .u8)).toArray ∧ ∃ a1 c1, (xs.drop 8).length ≤ c1 ∧
    Mm own w0 (⟨b, ⟨[.slice a1 (xs.drop 8).length c1, mv, ov]⟩, T⟩ :: bs) L (RdF (Value.int .u8) a1 (xs.drop 8) :: RdF (Value.int .u8) a0 xs :: Fs) w') := by
  obtain ⟨x0, x1, x2, x3, x4, x5, x6, x7, r, rfl⟩ : ∃ x0 x1 x2 x3 x4 x5 x6 x7 r, xs = x0 :: x1 :: x2 :: x3 :: x4 :: x5 :: x6 :: x7 :: r := by
    match xs, h8 with
    | x0 :: x1 :: x2 :: x3 :: x4 :: x5 :: x6 :: x7 :: r, _ => exact ⟨x0, x1, x2, x3, x4, x5, x6, x7, r, rfl⟩
  obtain ⟨ad, rfl⟩ := rd_some hM (by (repeat (first | exact List.mem_cons_self | refine List.mem_cons_of_mem _ ?_))) (k := 0) (x := x0) rfl
  refine f_start Try.func39 rfl Try.ntmps39 rfl rfl ?_; intro a hF
  (repeat' (first | (with_reducible refine w_seq ?_) | (with_reducible refine c_region ?_) | (with_reducible refine s_nil ?_) | (with_reducible refine q_then_n ?_) | ((with_reducible apply s_alloc hF hM); exact rfl; exact rfl; exact rfl; clear hF hM a; intro b w a hM hF)))
  refine c_drawS (fun i => Nat.ble 7 i) (fun x hx => List.mem_cons_of_mem _ (List.mem_cons_of_mem _ (hx))) hM ?_; clear hM; intro w hM
  (first | (apply t_arrSl (i := 0) hF rfl rfl rfl rfl rfl; kernel_rfl; exact (hM.sm.sub (fun x hx => by repeat (first | exact hx | refine List.mem_cons_of_mem _ ?_)) (fun _ h => by repeat (first | exact h | refine List.mem_cons_of_mem _ ?_))); exact (fun _ _ _ h => h); clear hF a; intro a hF))
  (first | (refine t_pure (i := 1) hF rfl rfl rfl rfl (by kernel_rfl) (hM.sm.sub (fun x hx => by repeat (first | exact hx | refine List.mem_cons_of_mem _ ?_)) (fun _ h => by repeat (first | exact h | refine List.mem_cons_of_mem _ ?_))) (fun _ _ _ h => h) ?_ ?_; (first | exact trivial | omega | decide); clear hF a; intro a hF))
  (first | (refine t_pure (i := 2) hF rfl rfl rfl rfl (by kernel_rfl) (hM.sm.sub (fun x hx => by repeat (first | exact hx | refine List.mem_cons_of_mem _ ?_)) (fun _ h => by repeat (first | exact h | refine List.mem_cons_of_mem _ ?_))) (fun _ _ _ h => h) ?_ ?_; (first | exact trivial | omega | decide); clear hF a; intro a hF))
  (first | (refine t_pure (i := 3) hF rfl rfl rfl rfl (by kernel_rfl) (hM.sm.sub (fun x hx => by repeat (first | exact hx | refine List.mem_cons_of_mem _ ?_)) (fun _ h => by repeat (first | exact h | refine List.mem_cons_of_mem _ ?_))) (fun _ _ _ h => h) ?_ ?_; (first | exact trivial | omega | decide); clear hF a; intro a hF))
  (first | (apply t_load (i := 4) hF rfl rfl rfl; (repeat (first | exact List.mem_cons_self | refine List.mem_cons_of_mem _ ?_)); exact rfl; exact rfl; kernel_rfl; exact (hM.sm.sub (fun x hx => by repeat (first | exact hx | refine List.mem_cons_of_mem _ ?_)) (fun _ h => by repeat (first | exact h | refine List.mem_cons_of_mem _ ?_))); exact (fun _ _ _ h => h); clear hF a; intro a hF))
  refine t_one (i := 5) hF rfl (by kernel_rfl) rfl ?_
  intro K hK
  (refine e_copyB hF hM (enc := Value.int .u8) (q := 8) (k := 8) (cs' := [.int .u8 x0, .int .u8 x1, .int .u8 x2, .int .u8 x3, .int .u8 x4, .int .u8 x5, .int .u8 x6, .int .u8 x7]) rfl rfl (by (repeat (first | exact List.mem_cons_self | refine List.mem_cons_of_mem _ ?_))) rfl (fun _ => rfl) .z (by rw [Nat.mul_one]) rfl (Nat.min_eq_right h8) rfl ?_; clear hM; intro w hM; replace hF := hF.put (d := 9) rfl (.int .i64 ((8 : Nat) : Int)); generalize a.put (some 9) _ = a at *)
  refine hK _ _ (fun _ => (hM.sm.sub (fun x hx => by repeat (first | exact hx | refine List.mem_cons_of_mem _ ?_)) (fun _ h => by repeat (first | exact h | refine List.mem_cons_of_mem _ ?_)))) ?_; clear hK
  (first | (refine t_pure (i := 6) hF rfl rfl rfl rfl (by kernel_rfl) (hM.sm.sub (fun x hx => by repeat (first | exact hx | refine List.mem_cons_of_mem _ ?_)) (fun _ h => by repeat (first | exact h | refine List.mem_cons_of_mem _ ?_))) (fun _ _ _ h => h) ?_ ?_; (first | exact trivial | omega | decide); clear hF a; intro a hF))
  refine t_done (by kernel_rfl) ?_
  (repeat' (first | (with_reducible refine w_seq ?_) | (with_reducible refine c_region ?_) | (with_reducible refine s_nil ?_) | (with_reducible refine q_then_n ?_) | ((with_reducible apply s_pure hF); exact rfl; exact rfl; exact rfl; (first | exact trivial | omega | decide); clear hF a; intro a hF) | ((with_reducible apply s_load hF hM); exact rfl; exact rfl; (repeat (first | exact List.mem_cons_self | refine List.mem_cons_of_mem _ ?_)); exact rfl; exact rfl; clear hF a; intro a hF) | ((with_reducible apply s_store hF hM); exact rfl; exact rfl; exact rfl; exact rfl; (repeat (first | exact Upd.z | apply Upd.s)); exact rfl; exact rfl; exact rfl; clear hM; intro w hM) | (with_reducible refine w_skip ?_) | (with_reducible refine w_ret ?_) | ((with_reducible apply c_false hF); exact rfl)))
  rw [show (((x0 :: x1 :: x2 :: x3 :: x4 :: x5 :: x6 :: x7 :: r).length : Nat) : Int).toNat - (8 : Int).toNat = ((x0 :: x1 :: x2 :: x3 :: x4 :: x5 :: x6 :: x7 :: r).drop 8).length by rw [Int.toNat_natCast, List.length_drop]; rfl, show (8 : Int).toNat = 8 from rfl] at hM
  (apply f_ret Try.results39 hF hM; (repeat (first | exact RL.nil | (apply RL.tmp; exact rfl) | (apply RL.cell; exact rfl; (repeat (first | exact List.mem_cons_self | refine List.mem_cons_of_mem _ ?_)); exact rfl))); refine Both.mk ?_; dsimp only [resV])
  replace hM := hM.sub (bs' := _ :: bs) (.cons _ (.cons _ (.refl _))) (.refl _) (fun _ h => h)
  refine ⟨rfl, sadr (some ad) 8 c0 1, c0 - 8, by simp at hc0 ⊢; omega, ?_⟩
  exact hM.addFact (RdF.drop (hM.facts _ List.mem_cons_self) 8 c0 hc0)
set_option maxRecDepth 20000 in
theorem sec_err (h8 : xs.length < 8) : Calls Try.prog 39 ⟨[.pointer (some ⟨b, 0, none⟩)]⟩ W (Both (fun _ _ => False) fun c w' => c = fail 10 ∧ ∃ bs' Fs', Mm own w0 (⟨b, bs', T⟩ :: bs) L Fs' w') := by
  refine f_start Try.func39 rfl Try.ntmps39 rfl rfl ?_; intro a hF
  (repeat' (first | (with_reducible refine w_seq ?_) | (with_reducible refine c_region ?_) | (with_reducible refine s_nil ?_) | (with_reducible refine q_then_n ?_) | ((with_reducible apply s_alloc hF hM); exact rfl; exact rfl; exact rfl; clear hF hM a; intro b w a hM hF)))
  refine c_drawS (fun i => Nat.ble 7 i) (fun x hx => List.mem_cons_of_mem _ (List.mem_cons_of_mem _ (hx))) hM ?_; clear hM; intro w hM
  (first | (apply t_arrSl (i := 0) hF rfl rfl rfl rfl rfl; kernel_rfl; exact (hM.sm.sub (fun x hx => by repeat (first | exact hx | refine List.mem_cons_of_mem _ ?_)) (fun _ h => by repeat (first | exact h | refine List.mem_cons_of_mem _ ?_))); exact (fun _ _ _ h => h); clear hF a; intro a hF))
  (first | (refine t_pure (i := 1) hF rfl rfl rfl rfl (by kernel_rfl) (hM.sm.sub (fun x hx => by repeat (first | exact hx | refine List.mem_cons_of_mem _ ?_)) (fun _ h => by repeat (first | exact h | refine List.mem_cons_of_mem _ ?_))) (fun _ _ _ h => h) ?_ ?_; (first | exact trivial | omega | decide); clear hF a; intro a hF))
  (first | (refine t_pure (i := 2) hF rfl rfl rfl rfl (by kernel_rfl) (hM.sm.sub (fun x hx => by repeat (first | exact hx | refine List.mem_cons_of_mem _ ?_)) (fun _ h => by repeat (first | exact h | refine List.mem_cons_of_mem _ ?_))) (fun _ _ _ h => h) ?_ ?_; (first | exact trivial | omega | decide); clear hF a; intro a hF))
  (first | (refine t_pure (i := 3) hF rfl rfl rfl rfl (by kernel_rfl) (hM.sm.sub (fun x hx => by repeat (first | exact hx | refine List.mem_cons_of_mem _ ?_)) (fun _ h => by repeat (first | exact h | refine List.mem_cons_of_mem _ ?_))) (fun _ _ _ h => h) ?_ ?_; (first | exact trivial | omega | decide); clear hF a; intro a hF))
  (first | (apply t_load (i := 4) hF rfl rfl rfl; (repeat (first | exact List.mem_cons_self | refine List.mem_cons_of_mem _ ?_)); exact rfl; exact rfl; kernel_rfl; exact (hM.sm.sub (fun x hx => by repeat (first | exact hx | refine List.mem_cons_of_mem _ ?_)) (fun _ h => by repeat (first | exact h | refine List.mem_cons_of_mem _ ?_))); exact (fun _ _ _ h => h); clear hF a; intro a hF))
  refine t_one (i := 5) hF rfl (by kernel_rfl) rfl ?_
  intro K hK
  (refine e_copyB hF hM (enc := Value.int .u8) (q := 8) (k := xs.length) rfl rfl (by (repeat (first | exact List.mem_cons_self | refine List.mem_cons_of_mem _ ?_))) rfl (fun _ => rfl) .z (by rw [Nat.mul_one]) rfl (Nat.min_eq_left (by omega)) rfl ?_; clear hM; intro w hM; replace hF := hF.put (d := 9) rfl (.int .i64 (xs.length : Nat)); generalize a.put (some 9) _ = a at *)
  refine hK _ _ (fun _ => (hM.sm.sub (fun x hx => by repeat (first | exact hx | refine List.mem_cons_of_mem _ ?_)) (fun _ h => by repeat (first | exact h | refine List.mem_cons_of_mem _ ?_)))) ?_; clear hK
  (first | (refine t_pure (i := 6) hF rfl rfl rfl rfl (by kernel_rfl) (hM.sm.sub (fun x hx => by repeat (first | exact hx | refine List.mem_cons_of_mem _ ?_)) (fun _ h => by repeat (first | exact h | refine List.mem_cons_of_mem _ ?_))) (fun _ _ _ h => h) ?_ ?_; (first | exact trivial | omega | decide); clear hF a; intro a hF))
  refine t_done (by kernel_rfl) ?_
  (repeat' (first | (with_reducible refine c_region ?_) | ((with_reducible apply s_pan hF); exact rfl; exact rfl; exact rfl) | (with_reducible refine q_then_p ?_) | (with_reducible refine q_then_n ?_) | ((with_reducible apply s_pure hF); exact rfl; exact rfl; exact rfl; (first | exact trivial | omega | decide); clear hF a; intro a hF) | ((with_reducible apply c_dec hF); exact rfl; all_goals intro hc; all_goals (try (exfalso; omega)))))
  refine f_panic hF ?_
  exact Both.panic ⟨rfl, _, _, hM.sub (.cons _ (.cons _ (.refl _))) (.refl _) (fun _ h => h)⟩
end
end Go.Proofs.Ythcnnedgfndklaa
