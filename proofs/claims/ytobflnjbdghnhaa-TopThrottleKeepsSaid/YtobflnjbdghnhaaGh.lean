/- The walker's steps in a region that draws its order. -/
import Derived.Test.YtobflnjbdghnhaaGg
set_option linter.unusedSimpArgs false
set_option linter.unusedVariables false
set_option linter.unusedSectionVars false
namespace Go.Proofs.Ytobflnjbdghnhaa
open Go.RowKit Go.Shelf
variable {n : Nat} {ds : List Deferred} {l : List (Nat × Value)} {a : Act} {w w0 : World} {own : Nat → Prop} {bs bs0 : List BoxE} {L : List Ent} {Fs Fs0 : List (World → Prop)}
variable {os : List Oper} {Q : Exit → Act → World → Prop} {K : Act → World → Prop}
variable {d : Nat} {op : Op} {ty : TypeId} {pos : String} {af : Array Edge} {g : Option (Nat × Bool)}
variable {tail : Nat → Bool} {fuel i j : Nat} {listed : Array Bool}
theorem mixed : Try.prog.follows .mixedOrders = true := by kernel_rfl
theorem c_draw {id : Nat} (tail : Nat → Bool) (hM : Mm own w0 bs L Fs w) (h : ∀ w, Mm own w0 bs L Fs w → wpAnyT Try.prog .any ⟨os⟩ Q (Sm bs Fs) tail os.length (Array.replicate os.length false) a w) : Wk none (Code.region id ⟨os⟩ true) Q a w :=
  wp_region_T (Sm bs Fs) tail mixed hM.drew.sm fun _ => by have := h _ hM.drew; simpa using this
def takeB (os : List Oper) (tail : Nat → Bool) (listed : Array Bool) (i : Nat) : Bool :=
  Region.noSelect ⟨os⟩ && (Region.free .any ⟨os⟩ listed i && ((Region.ready .any ⟨os⟩ listed).contains i && (tailWaits .any ⟨os⟩ tail i && closedB .any ⟨os⟩ listed)))
theorem t_take {o : Oper} {v : Value} (hi : getO os i = some o) (hb : takeB os tail listed i = true) (hQ : ∀ c a w, Q (.panic c) (a.put o.dst v) w → Q (.panic c) a w) (hy : YieldsIf Try.prog ⟨os⟩ (Sm bs0 Fs0) o v a) (hS : Sm bs0 Fs0 w)
    (k : wpAnyT Try.prog .any ⟨os⟩ Q (Sm bs0 Fs0) tail fuel (listed.setIfInBounds i true) (a.put o.dst v) w) : wpAnyT Try.prog .any ⟨os⟩ Q (Sm bs0 Fs0) tail (fuel + 1) listed a w := by
  unfold takeB at hb
  simp only [Bool.and_eq_true] at hb
  obtain ⟨h1, h2, h3, h4, h5⟩ := hb
  exact wpAnyT_take (by rw [← hi, getO_eq]; simp) h1 h2 h3 h4 h5 hQ hy hS k
theorem t_pure {v : Value} {p : Prop} (hF : Fr n ds l a) (hi : getO os i = some ⟨some d, op, ty, pos, af, g⟩) (hg : wantO os l g = some true) (hp : pureO l op = some (v, p)) (hd : Nat.blt d n = true) (hb : takeB os tail listed i = true) (hS : Sm bs0 Fs0 w) (hQ : ∀ c a w, Q (.panic c) (a.put (some d) v) w → Q (.panic c) a w) (ob : p)
    (k : ∀ a, Fr n ds ((d, v) :: l) a → wpAnyT Try.prog .any ⟨os⟩ Q (Sm bs0 Fs0) tail fuel (listed.setIfInBounds i true) a w) : wpAnyT Try.prog .any ⟨os⟩ Q (Sm bs0 Fs0) tail (fuel + 1) listed a w :=
  t_take hi hb hQ (.inl ⟨wantO_ok (o := ⟨some d, op, ty, pos, af, g⟩) hF hg, fun w _ => pureO_ok (o := ⟨some d, op, ty, pos, af, g⟩) hF hp ob w⟩) hS (k _ (hF.put hd v))
theorem t_skip (hF : Fr n ds l a) (hi : getO os i = some ⟨some d, op, ty, pos, af, g⟩) (hg : wantO os l g = some false) (hd : Nat.blt d n = true) (hb : takeB os tail listed i = true) (hS : Sm bs0 Fs0 w) (hQ : ∀ c a w, Q (.panic c) (a.put (some d) undef) w → Q (.panic c) a w)
    (k : ∀ a, Fr n ds ((d, undef) :: l) a → wpAnyT Try.prog .any ⟨os⟩ Q (Sm bs0 Fs0) tail fuel (listed.setIfInBounds i true) a w) : wpAnyT Try.prog .any ⟨os⟩ Q (Sm bs0 Fs0) tail (fuel + 1) listed a w :=
  t_take hi hb hQ (.inr ⟨wantO_ok (o := ⟨some d, op, ty, pos, af, g⟩) hF hg, rfl⟩) hS (k _ (hF.put hd _))
theorem t_load {T T' : TypeId} {X : Operand} {b off : Nat} {cs : List Value} {v : Value} (hF : Fr n ds l a) (hi : getO os i = some ⟨some d, .load T X, ty, pos, af, g⟩) (hg : wantO os l g = some true) (hX : ev l X = some (.pointer (some ⟨b, off, none⟩))) (hm : (⟨b, ⟨cs⟩, T'⟩ : BoxE) ∈ bs0) (hv : rdV T cs off = some v) (hd : Nat.blt d n = true) (hb : takeB os tail listed i = true) (hS : Sm bs0 Fs0 w) (hQ : ∀ c a w, Q (.panic c) (a.put (some d) v) w → Q (.panic c) a w)
    (k : ∀ a, Fr n ds ((d, v) :: l) a → wpAnyT Try.prog .any ⟨os⟩ Q (Sm bs0 Fs0) tail fuel (listed.setIfInBounds i true) a w) : wpAnyT Try.prog .any ⟨os⟩ Q (Sm bs0 Fs0) tail (fuel + 1) listed a w :=
  t_take hi hb hQ (.inl ⟨wantO_ok (o := ⟨some d, .load T X, ty, pos, af, g⟩) hF hg, fun _ h => e_load hF hX (h.1 _ hm) hv⟩) hS (k _ (hF.put hd v))
theorem t_loadK {T T' : TypeId} {X : Operand} {b off : Nat} {cs : List Value} {v : Value} (hF : Fr n ds l a) (hi : getO os i = some ⟨some d, .load T X, ty, pos, af, g⟩) (hg : wantO os l g = some true) (hX : ev l X = some (.pointer (some ⟨b, off, none⟩))) (hm : BxF b cs T' ∈ Fs0) (hv : rdV T cs off = some v) (hd : Nat.blt d n = true) (hb : takeB os tail listed i = true) (hS : Sm bs0 Fs0 w) (hQ : ∀ c a w, Q (.panic c) (a.put (some d) v) w → Q (.panic c) a w)
    (k : ∀ a, Fr n ds ((d, v) :: l) a → wpAnyT Try.prog .any ⟨os⟩ Q (Sm bs0 Fs0) tail fuel (listed.setIfInBounds i true) a w) : wpAnyT Try.prog .any ⟨os⟩ Q (Sm bs0 Fs0) tail (fuel + 1) listed a w :=
  t_take hi hb hQ (.inl ⟨wantO_ok (o := ⟨some d, .load T X, ty, pos, af, g⟩) hF hg, fun _ h => e_load hF hX (h.2 _ hm) hv⟩) hS (k _ (hF.put hd v))
theorem t_loadF {α : Type} {enc : α → Value} {T : TypeId} {X : Operand} {ad : Addr} {z : Int} {xs : List α} {x : α} (hF : Fr n ds l a) (hi : getO os i = some ⟨some d, .load T X, ty, pos, af, g⟩) (hg : wantO os l g = some true) (hX : ev l X = some (.pointer (some (adr ad z 1)))) (hr : RdF enc (some ad) xs ∈ Fs0) (hx : xs[z.toNat]? = some x) (hT : sclO T = some ()) (hd : Nat.blt d n = true) (hb : takeB os tail listed i = true) (hS : Sm bs0 Fs0 w) (hQ : ∀ c a w, Q (.panic c) (a.put (some d) (enc x)) w → Q (.panic c) a w)
    (k : ∀ a, Fr n ds ((d, enc x) :: l) a → wpAnyT Try.prog .any ⟨os⟩ Q (Sm bs0 Fs0) tail fuel (listed.setIfInBounds i true) a w) : wpAnyT Try.prog .any ⟨os⟩ Q (Sm bs0 Fs0) tail (fuel + 1) listed a w :=
  t_take hi hb hQ (.inl ⟨wantO_ok (o := ⟨some d, .load T X, ty, pos, af, g⟩) hF hg, fun _ h => e_loadF hF hX (h.2 _ hr) hx hT⟩) hS (k _ (hF.put hd _))
theorem t_done (hr : Region.ready .any ⟨os⟩ listed = []) (h : Q .normal a w) : wpAnyT Try.prog .any ⟨os⟩ Q (Sm bs0 Fs0) tail fuel listed a w := wpAnyT_done hr h fuel
theorem t_one {o : Oper} (hF : Fr n ds l a) (hi : getO os i = some o) (hr : Region.ready .any ⟨os⟩ listed = [i]) (hg : wantO os l o.guard = some true)
    (h : ∀ K : Act → World → Prop, (∀ a' w', (tail i = false → Sm bs0 Fs0 w') → wpAnyT Try.prog .any ⟨os⟩ Q (Sm bs0 Fs0) tail fuel (listed.setIfInBounds i true) a' w' → K a' w') → o.wp Try.prog a w K Q) : wpAnyT Try.prog .any ⟨os⟩ Q (Sm bs0 Fs0) tail (fuel + 1) listed a w :=
  wpAnyT_one hr (by rw [← hi, getO_eq]; simp) (wantO_ok hF hg) fun K hK => h K fun a' w' h1 h2 => hK a' w' h1 (fun _ => h2)
theorem t_two {o u : Oper} (hF : Fr n ds l a) (hi : getO os i = some o) (hj : getO os j = some u) (hr : Region.ready .any ⟨os⟩ listed = [i, j]) (hg : wantO os l o.guard = some true) (hg' : wantO os l u.guard = some true)
    (h : ∀ K : Act → World → Prop, (∀ a' w', (tail i = false → Sm bs0 Fs0 w') → wpAnyT Try.prog .any ⟨os⟩ Q (Sm bs0 Fs0) tail fuel (listed.setIfInBounds i true) a' w' → K a' w') → o.wp Try.prog a w K Q)
    (h' : ∀ K : Act → World → Prop, (∀ a' w', (tail j = false → Sm bs0 Fs0 w') → wpAnyT Try.prog .any ⟨os⟩ Q (Sm bs0 Fs0) tail fuel (listed.setIfInBounds j true) a' w' → K a' w') → u.wp Try.prog a w K Q) : wpAnyT Try.prog .any ⟨os⟩ Q (Sm bs0 Fs0) tail (fuel + 1) listed a w :=
  wpAnyT_two hr (by rw [← hi, getO_eq]; simp) (wantO_ok hF hg) (by rw [← hj, getO_eq]; simp) (wantO_ok hF hg') (fun K hK => h K fun a' w' h1 h2 => hK a' w' h1 (fun _ => h2)) (fun K hK => h' K fun a' w' h1 h2 => hK a' w' h1 (fun _ => h2))
/-- A step that comes up behind all others of its kind, written as a step that a region may take: what it does to K. -/
theorem x_lit {t e : TypeId} {len : Nat} {ps : List (Nat × Operand)} {vs : List (Nat × Value)} {cs : List Value} (hF : Fr n ds l a) (hM : Mm own w0 bs L Fs w) (hp : evP l ps = some vs) (hl : litO t len vs = some (e, cs)) (hd : Nat.blt d n = true)
    (k : ∀ b w' a, Mm own w0 (⟨b, ⟨cs⟩, e⟩ :: bs) L Fs w' → Fr n ds ((d, .slice (some ⟨b, 0, none⟩) len len) :: l) a → K a w') : (⟨some d, .buildSlice t len ⟨ps⟩, ty, pos, af, g⟩ : Oper).wp Try.prog a w K Q :=
  e_lit hF hM hp hl fun b w' h1 _ => k b w' _ h1 (hF.put hd _)
theorem x_alloc {T : TypeId} {cs : List Value} (hF : Fr n ds l a) (hM : Mm own w0 bs L Fs w) (hz : zeroO T = some cs) (hd : Nat.blt d n = true) (k : ∀ b w' a, Mm own w0 (⟨b, ⟨cs⟩, T⟩ :: bs) L Fs w' → Fr n ds ((d, .pointer (some ⟨b, 0, none⟩)) :: l) a → K a w') : (⟨some d, .alloc T, ty, pos, af, g⟩ : Oper).wp Try.prog a w K Q :=
  e_alloc hz hM fun b w' h1 _ => k b w' _ h1 (hF.put hd _)
theorem x_box {T : TypeId} {X : Operand} {v : Value} {cs : List Value} (hF : Fr n ds l a) (hM : Mm own w0 bs L Fs w) (hX : ev l X = some v) (hc : cellsO v = some cs) (hd : Nat.blt d n = true)
    (k : ∀ b w' a, Mm own w0 (⟨b, ⟨cs⟩, T⟩ :: bs) L Fs w' → Fr n ds ((d, .pointer (some ⟨b, 0, none⟩)) :: l) a → K a w') : (⟨some d, .box T X, ty, pos, af, g⟩ : Oper).wp Try.prog a w K Q :=
  e_box hF hX hc hM fun b w' h1 _ => k b w' _ h1 (hF.put hd _)
theorem x_store {T T' : TypeId} {X Y : Operand} {b off : Nat} {cs cs' vs : List Value} {v : Value} {bs' : List BoxE} (hF : Fr n ds l a) (hM : Mm own w0 bs L Fs w) (hX : ev l X = some (.pointer (some ⟨b, off, none⟩))) (hY : ev l Y = some v) (hv : cellsO v = some vs)
    (hu : Upd bs ⟨b, ⟨cs⟩, T'⟩ ⟨b, ⟨cs'⟩, T'⟩ bs') (hs : setAt cs off vs = some cs') (hT : tyS T = some vs.length) (h1 : oneL vs = true) (k : ∀ w' a, Mm own w0 bs' L Fs w' → Fr n ds l a → K a w') : (⟨none, .store T X Y, ty, pos, af, g⟩ : Oper).wp Try.prog a w K Q :=
  e_store hF hM hX hY hv hu hs hT h1 fun w' h => k w' _ h hF
theorem x_call {f : FuncId} {X : Operand} {as_ : List Operand} {ts : Array TypeId} {vs : List Value} {R : Value → World → Prop} (hF : Fr n ds l a) (hM : Mm own w0 bs L Fs w) (hX : ev l X = some (.func (.func f) #[] #[])) (ha : evL l as_ = some vs) (he : memB entL f = true) (hd : Nat.blt d n = true)
    (hC : Calls Try.prog f ⟨vs⟩ w (Ret w R)) (k : ∀ v w' a, R v w' → Since w w' → Mm own w0 bs L Fs w' → Fr n ds ((d, v) :: l) a → K a w') : (⟨some d, .call ⟨.value X, ⟨as_⟩, ts⟩, ty, pos, af, g⟩ : Oper).wp Try.prog a w K Q :=
  e_call hF hX ha he hC fun v w' hs hR => k v w' _ hR hs (hM.keep hs) (hF.put hd v)
theorem x_callc {f : FuncId} {X : Operand} {as_ : List Operand} {ts : Array TypeId} {fi ca vs us xs : List Value} {R : Value → World → Prop} (hF : Fr n ds l a) (hM : Mm own w0 bs L Fs w) (hX : ev l X = some (.func (.func f) ⟨fi⟩ ⟨ca⟩)) (ha : evL l as_ = some vs) (h1 : appL fi vs = some us) (h2 : appL us ca = some xs) (he : memB entL f = true) (hd : Nat.blt d n = true)
    (hC : Calls Try.prog f ⟨xs⟩ w (Ret w R)) (k : ∀ v w' a, R v w' → Since w w' → Mm own w0 bs L Fs w' → Fr n ds ((d, v) :: l) a → K a w') : (⟨some d, .call ⟨.value X, ⟨as_⟩, ts⟩, ty, pos, af, g⟩ : Oper).wp Try.prog a w K Q :=
  e_callc hF hX ha h1 h2 he hC fun v w' hs hR => k v w' _ hR hs (hM.keep hs) (hF.put hd v)
theorem x_pure {v : Value} {p : Prop} (hF : Fr n ds l a) (hM : Mm own w0 bs L Fs w) (hp : pureO l op = some (v, p)) (hd : Nat.blt d n = true) (ob : p) (k : ∀ a, Fr n ds ((d, v) :: l) a → K a w) : (⟨some d, op, ty, pos, af, g⟩ : Oper).wp Try.prog a w K Q :=
  upon_value (pureO_ok (o := ⟨some d, op, ty, pos, af, g⟩) hF hp ob w) (k _ (hF.put hd v))
theorem x_load {T T' : TypeId} {X : Operand} {b off : Nat} {cs : List Value} {v : Value} (hF : Fr n ds l a) (hM : Mm own w0 bs L Fs w) (hX : ev l X = some (.pointer (some ⟨b, off, none⟩))) (hb : (⟨b, ⟨cs⟩, T'⟩ : BoxE) ∈ bs) (hv : rdV T cs off = some v) (hd : Nat.blt d n = true) (k : ∀ a, Fr n ds ((d, v) :: l) a → K a w) : (⟨some d, .load T X, ty, pos, af, g⟩ : Oper).wp Try.prog a w K Q :=
  upon_value (e_load hF hX (hM.mem.box _ hb) hv) (k _ (hF.put hd v))
/-- append of a literal that was laid in the region: it may stand at whatever place among the boxes. -/
theorem x_app {t e E : TypeId} {size bytes : Nat} {S X : Operand} {v : Value} {m k : Nat} {xs ys : List Value} {b q c : Nat} (hF : Fr n ds l a) (hM : Mm own w0 bs L Fs w) (hX : ev l X = some (.slice (some ⟨b, 0, none⟩) q c)) (hS : ev l S = some v) (he : elO t = some (e, size, bytes))
    (hm : (⟨b, ⟨ys⟩, E⟩ : BoxE) ∈ bs) (hL : Kth L k ⟨e, size, v, m, xs⟩) (hy : ys.length = q * size) (h1 : oneL ys = true) (h0 : Nat.blt 0 q = true) (hd : Nat.blt d n = true) (hb : (m + q) * bytes ≤ 140737488355328 ∧ m + q ≤ 9223372036854775807)
    (kk : ∀ g cap w' a, Mm own w0 bs (L.set k ⟨e, size, .slice (some ⟨g, 0, none⟩) (m + q) cap, m + q, xs ++ ys⟩) Fs w' → Fr n ds ((d, .slice (some ⟨g, 0, none⟩) (m + q) cap) :: l) a → K a w') :
    (⟨some d, .call ⟨.builtin .append, #[S, X], #[t, t]⟩, ty, pos, af, g⟩ : Oper).wp Try.prog a w K Q := by
  have hbox := hM.mem.box _ hm
  refine e_app hF hM hS hX he hL hy ?_ (oneL_ok h1) (by simpa using h0) hb fun g cap w' h => kk g cap w' _ h (hF.put hd _)
  intro j u hu
  rw [add_lit, (Box.rules hbox).1]
  simpa using hu
end Go.Proofs.Ytobflnjbdghnhaa
