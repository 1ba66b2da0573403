/- Literals that are never written again. -/
import Derived.Test.YtobflnjbdghnhaaGr
set_option linter.unusedSimpArgs false
set_option linter.unusedVariables false
set_option linter.unusedSectionVars false
namespace Go.Proofs.Ytobflnjbdghnhaa
open Go.RowKit Go.Shelf
section
variable {w w0 : World} {own : Nat → Prop} {bs : List BoxE} {L : List Ent} {Fs : List (World → Prop)}
/-- A box that nobody writes again. -/
theorem Mm.freeze {b : Nat} {cs : List Value} {T : TypeId} (m : Mm own w0 (⟨b, ⟨cs⟩, T⟩ :: bs) L Fs w) : Mm own w0 bs L (BxF b cs T :: Fs) w := by
  have hbox := m.mem.box _ List.mem_cons_self
  have hnew := m.mem.new _ List.mem_cons_self
  have htwo := m.mem.two
  rw [List.pairwise_cons] at htwo
  refine (m.sub (.cons _ (.refl _)) (.refl _) (fun f hf => hf)).addFact ⟨fun x => x = b, fun x hx => ⟨by subst hx; exact hbox.lt, ?_⟩, fun w' hk _ => hbox.of_block (hk b rfl)⟩
  subst hx
  rintro (h | ⟨y, hy, e⟩ | ⟨y, hy, e⟩)
  · have := m.low _ h; simp only at hnew; omega
  · exact htwo.1 y hy e.symm
  · exact m.mem.far _ List.mem_cons_self y hy e
theorem Has.lit {α : Type} {enc : α → Value} {b : Nat} {cs : List Value} {T : TypeId} (h : Has own w (BxF b cs T)) (xs : List α) (e : cs = xs.map enc) : Has own w (RdF enc (some ⟨b, 0, none⟩) xs) := by
  subst e
  refine h.imp fun w hb i x hx => ⟨b, 0, rfl, Box.lt hb, ?_⟩
  rw [(Box.rules hb).1 _]
  simp [hx]
theorem Has.ints {b : Nat} {cs : List Value} {T : TypeId} (h : Has own w (BxF b cs T)) (xs : List Int) (e : cs = xs.map (Value.int .i64)) : Has own w (RdF (Value.int .i64) (some ⟨b, 0, none⟩) xs) := h.lit xs e
end
end Go.Proofs.Ytobflnjbdghnhaa
