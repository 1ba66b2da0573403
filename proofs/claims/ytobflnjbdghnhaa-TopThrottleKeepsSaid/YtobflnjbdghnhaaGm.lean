/- Slices that are made: rows of zeros. -/
import Derived.Test.YtobflnjbdghnhaaGk
import Derived.Laws.MakeOwn
set_option linter.unusedSimpArgs false
set_option linter.unusedVariables false
set_option linter.unusedSectionVars false
namespace Go.Proofs.Ytobflnjbdghnhaa
open Go.RowKit Go.Shelf
section
variable {n : Nat} {ds : List Deferred} {l : List (Nat × Value)} {a : Act} {w w0 : World} {own : Nat → Prop} {bs : List BoxE} {L : List Ent} {Fs : List (World → Prop)}
variable {os rest : List Oper} {Q : Exit → Act → World → Prop} {K : Act → World → Prop}
variable {d : Nat} {op : Op} {ty : TypeId} {pos : String} {af : Array Edge} {g : Option (Nat × Bool)}
theorem made_one (v : Value) (c : Nat) : madeCells #[v] c = (List.replicate c v).toArray := by
  unfold madeCells
  apply Array.ext
  · simp
  · intro i h1 h2
    simp [Nat.mod_one]
/-- The element type of a slice type whose elements have one cell: with its zero and its bytes. -/
def mkO (t : TypeId) : Option (TypeId × Nat × Value) := match tyD t with
  | some (.slice e) => match te e with
    | some ⟨_, size, bytes, _, zero⟩ => match cellsO zero, Nat.beq size 1 with
      | some [v], true => some (e, bytes, v)
      | _, _ => none
    | none => none
  | _ => none
theorem mkO_ok {t e : TypeId} {bytes : Nat} {v : Value} (h : mkO t = some (e, bytes, v)) : Try.prog.underlying t = some (.slice e) ∧ ∃ i z, Try.prog.info? e = some i ∧ i.zero = some z ∧ i.size = 1 ∧ i.bytes = bytes ∧ z.cells = #[v] := by
  unfold mkO at h
  split at h
  · rename_i e' he
    split at h
    · rename_i ag sz by' de ze hi
      split at h
      · rename_i v' hz hb
        injection h with h; injection h with h1 h2; injection h2 with h2 h3
        subst h1 h2 h3
        obtain ⟨j, j1, j2, j3, j4⟩ := (te_ok hi).info
        exact ⟨tyD_ok he, j, ze, j1, j2, by rw [j3]; exact Nat.eq_of_beq_eq_true hb, j4, cellsO_ok hz⟩
      · cases h
    · cases h
  · cases h
theorem e_make {t e : TypeId} {bytes c : Nat} {v : Value} {X Y : Operand} {kl kc : IntKind} {zl zc : Int} (hF : Fr n ds l a) (hM : Mm own w0 bs L Fs w) (hX : ev l X = some (.int kl zl)) (hY : ev l Y = some (.int kc zc)) (hm : mkO t = some (e, bytes, v)) (hl : zl = (c : Int)) (hc : zc = (c : Int)) (hb : (bytes : Int) * (c : Int) ≤ 281474976710656 ∧ (c : Int) ≤ 9223372036854775807)
    (k : ∀ b w', Mm own w0 bs (⟨e, 1, .slice (some ⟨b, 0, none⟩) c c, c, List.replicate c v⟩ :: L) Fs w' → K (a.put (some d) (.slice (some ⟨b, 0, none⟩) c c)) w') : (⟨some d, .makeSlice t X Y, ty, pos, af, g⟩ : Oper).wp Try.prog a w K Q := by
  subst hl
  subst hc
  obtain ⟨e1, i, z, i1, i2, i3, i4, i5⟩ := mkO_ok hm
  have hr := run_make (P := Try.prog) w t e i z e1 i1 i2 kl kc (c : Int) (c : Int) (by omega) (Int.le_refl _) (by rw [i4]; exact hb.1) hb.2
  rw [i5, i3, Nat.mul_one, Int.toNat_natCast, made_one] at hr
  refine upon_value (v := .slice (some ⟨w.heap.size, 0, none⟩) c c) (w' := w.alloc (.cells (List.replicate c v).toArray e)) ?_ (k _ _ ((hM.box ⟨List.replicate c v⟩ e).boxRow 1 c (by simp) (by unfold maxLen; omega)))
  simp [execOp, hF.eval hX, hF.eval hY, hr, Sem.run_bind, Result.andThen]
theorem s_make {t e : TypeId} {bytes : Nat} {v : Value} {X Y : Operand} {kl kc : IntKind} {zl zc : Int} (c : Nat) (hF : Fr n ds l a) (hM : Mm own w0 bs L Fs w) (hg : wantO os l g = some true) (hX : ev l X = some (.int kl zl)) (hY : ev l Y = some (.int kc zc)) (hm : mkO t = some (e, bytes, v)) (hd : Nat.blt d n = true) (hl : zl = (c : Int)) (hc : zc = (c : Int)) (hb : (bytes : Int) * (c : Int) ≤ 281474976710656 ∧ (c : Int) ≤ 9223372036854775807)
    (k : ∀ b w' a, Mm own w0 bs (⟨e, 1, .slice (some ⟨b, 0, none⟩) c c, c, List.replicate c v⟩ :: L) Fs w' → Fr n ds ((d, .slice (some ⟨b, 0, none⟩) c c) :: l) a → wl ⟨os⟩ Q rest a w') : wl ⟨os⟩ Q (⟨some d, .makeSlice t X Y, ty, pos, af, g⟩ :: rest) a w :=
  s_op hF hg fun _ hK => e_make hF hM hX hY hm hl hc hb fun b w' h => hK _ _ (k b w' _ h (hF.put hd _))
end
end Go.Proofs.Ytobflnjbdghnhaa
