/- Zeros appended; a row that is read from then on; high bits. -/
import Derived.Test.YtobflnjbdghnhaaGt
import Derived.Test.YtobflnjbdghnhaaGm
set_option linter.unusedSimpArgs false
set_option linter.unusedVariables false
set_option linter.unusedSectionVars false
namespace Go.Proofs.Ytobflnjbdghnhaa
open Go.RowKit Go.Shelf
section
variable {n : Nat} {ds : List Deferred} {l : List (Nat × Value)} {a : Act} {w w' w0 : World} {own : Nat → Prop} {bs : List BoxE} {L : List Ent} {Fs : List (World → Prop)}
variable {os rest : List Oper} {Q : Exit → Act → World → Prop} {K : Act → World → Prop}
variable {d : Nat} {op : Op} {ty : TypeId} {pos : String} {af : Array Edge} {g : Option (Nat × Bool)}
theorem run_append_make {P : Program} (w : World) (base : Nat) (t tx ty e : TypeId) (i : TypeInfo) (z : Value) (size bytes : Nat) (ht : P.underlying t = some (.slice e)) (htx : P.underlying tx = some (.int .i64)) (hi : P.info? e = some i) (hz : i.zero = some z)
    (hsize : i.size = size) (hby : i.bytes = bytes) (hzs : z.cells.size = size) (hsz : 0 < size)
    (v : Value) (n : Nat) (xs : List Value) (hown : w.ownsRow base e size v n xs) (m : Nat) (hm : 0 < m) (h1 : ∀ u ∈ z.cells.toList, u.oneCell' = true)
    (h63 : n + m ≤ maxLen) (hbytes : (n + m) * bytes ≤ 140737488355328) (hbase : base ≤ w.heap.size) :
    ∃ gb c w', (Builtin.append_ #[t, tx] ty #[v, .int .i64 m]).run P w = .ok (.slice (some ⟨gb, 0, none⟩) (n + m) c) w' ∧ w'.ownsRow base e size (.slice (some ⟨gb, 0, none⟩) (n + m) c) (n + m) (xs ++ zerosL z.cells.toList m) ∧ w.grownBy w' v.ownBlock ∧ (v.ownBlock = some gb ∨ gb = w.heap.size) := by
  subst hsize
  subst hby
  have hsmall : n + m ≤ 9223372036854775807 := by simp only [maxLen] at h63; omega
  have hmw : IntKind.i64.wrap (m : Int) = m := by rw [IntKind.wrap_i64]; omega
  have hm0 : ¬ (m : Int) < 0 := by omega
  have hmb : m * i.bytes ≤ 140737488355328 := Nat.le_trans (Nat.mul_le_mul_right _ (by omega)) hbytes
  have hmb2 : ¬ 281474976710656 < (m : Int) * (i.bytes : Int) := by
    have : ((m * i.bytes : Nat) : Int) = (m : Int) * (i.bytes : Int) := Int.natCast_mul _ _
    omega
  have hms : ¬ m * i.size = 0 := Nat.mul_ne_zero (by omega) (by omega)
  have hmn : m ≠ 0 := by omega
  have hsn : i.size ≠ 0 := by omega
  have hzl : (zerosL z.cells.toList m).length = m * i.size := by rw [zerosL_len]; simp [hzs]
  have hzc : Builtin.zeroCells z.cells m = (zerosL z.cells.toList m).toArray := zeros_eq (size := z.cells.size) rfl
  have hlen : (xs ++ zerosL z.cells.toList m).length = (n + m) * i.size := by rw [List.length_append, hown.1, hzl, Nat.add_mul]
  have hone : ∀ u ∈ zerosL z.cells.toList m, u.oneCell' = true := by
    clear hzl hzc hlen hmb hmb2 hms hmn hm hmw hm0 h63 hbytes hsmall
    induction m with
    | zero => intro u hu; simp [zerosL] at hu
    | succ m ih =>
      intro u hu
      rw [zerosL] at hu
      rcases List.mem_append.1 hu with hu | hu
      · exact h1 u hu
      · exact ih u hu
  have grown : ∀ (old : Nat), old < n + m → ∀ (row : Option Nat),
      (w.drew.alloc (.cells (xs.toArray ++ (zerosL z.cells.toList m).toArray ++ Builtin.zeroCells z.cells (grownCap w (n + m) old e - (n + m))) e)).ownsRow base e i.size
        (.slice (some ⟨w.heap.size, 0, none⟩) (n + m) (grownCap w (n + m) old e)) (n + m) (xs ++ zerosL z.cells.toList m) ∧
      w.grownBy (w.drew.alloc (.cells (xs.toArray ++ (zerosL z.cells.toList m).toArray ++ Builtin.zeroCells z.cells (grownCap w (n + m) old e - (n + m))) e)) row := by
    intro old ho row
    have hge := grownCap_ge w (n + m) old e
    have hcm : grownCap w (n + m) old e ≤ maxLen := grownCap_le_maxLen w (n + m) old e h63
    refine ⟨⟨hlen, .inr ⟨w.heap.size, _, _, rfl, hbase, heap_alloc_new w.drew _, hge, hcm, ?_, ?_⟩⟩, ⟨rfl, rfl, rfl, by simp, fun k hk _ => Below.heap_alloc w.drew _ k hk⟩⟩
    · simp only [Array.size_append, List.size_toArray, size_zeroCells, hzs, hown.1, hzl, ← Nat.add_mul]
      congr 1
      omega
    · simp only [Array.toList_append, List.append_assoc]
      rw [← List.append_assoc, ← hlen]
      exact List.take_left
  rcases hown.2 with ⟨rfl, rfl⟩ | ⟨g, cap, cur, rfl, hbg, hg, hnc, hcm, hcs, htake⟩
  · have hx : xs = [] := List.eq_nil_of_length_eq_zero (by simpa using hown.1)
    subst hx
    have hgr := grown 0 (by omega) (Value.ownBlock (.slice none 0 0))
    simp only [Nat.zero_add, List.nil_append, Array.empty_append] at hgr ⊢
    refine ⟨_, _, _, ?_, hgr.1, hgr.2, .inr rfl⟩
    have h63' : ¬ (9223372036854775807 < (m : Int)) := by omega
    have h48' : ¬ (281474976710656 < Builtin.nextslicecap m 0 * i.bytes) := by rw [nextslicecap_zero hm]; omega
    simp [Builtin.append_, run_underlying ht, run_underlying htx, sizeOf, typeInfo, zeroValue, hi, hz, Builtin.lenOf, hmn, hms, hmw, hm0, hmb2, h63', h48', Question.forced, run_firstCells_none, newRow, grownCap, asInt, asIntOf, hzc]
  · by_cases hroom : n + m ≤ cap
    · have hfit : n * i.size + (zerosL z.cells.toList m).length ≤ cur.size := by rw [hzl, hcs, ← Nat.add_mul]; exact Nat.mul_le_mul_right _ hroom
      refine ⟨g, cap, w.setRow g (cur.toList.take (n * i.size) ++ zerosL z.cells.toList m ++ cur.toList.drop (n * i.size + (zerosL z.cells.toList m).length)).toArray, ?_, ⟨hlen, .inr ⟨g, cap, _, rfl, hbg, setRow_heap w g cur _ e _ hg, hroom, hcm, ?_, ?_⟩⟩, ⟨rfl, rfl, rfl, by simp, fun k _ hk => setRow_other w g k _ (fun e => hk (by simp [Value.ownBlock, e]))⟩, .inl rfl⟩
      · have hst := run_storeCells_at P g (n * i.size) e (zerosL z.cells.toList m) 0 cur w hg (by simpa using hfit) hone
        simp only [Nat.add_zero] at hst
        simp [Builtin.append_, run_underlying ht, run_underlying htx, sizeOf, typeInfo, zeroValue, hi, hz, Builtin.lenOf, hmn, hms, hmw, hm0, hmb2, hroom, asInt, asIntOf, hzc, Addr.add_lit, hst]
      · simp only [List.size_toArray, List.length_append, List.length_take, List.length_drop, Array.length_toList]
        omega
      · rw [htake, ← hlen]
        exact List.take_left
    · have holds : ∀ j u, xs[j]? = some u → w.cell? ((⟨g, 0, none⟩ : Addr).add j) = some u := hown.cells (g := g) rfl
      have hgr := grown cap (by omega) (Value.ownBlock (.slice (some ⟨g, 0, none⟩) n cap))
      refine ⟨_, _, _, ?_, hgr.1, hgr.2, .inr rfl⟩
      have h63' : ¬ (9223372036854775807 < ((n : Int) + (m : Int))) := by omega
      have h48' : ¬ (281474976710656 < Builtin.nextslicecap (n + m) cap * i.bytes) := by have : Builtin.nextslicecap (n + m) cap * i.bytes ≤ 281474976710656 := growslice_fits (by omega) hbytes; omega
      have hfo := run_firstCells_some (P := P) w.drew i.size n ⟨g, 0, none⟩ n cap xs hown.1 (by simpa using holds)
      simp [Builtin.append_, run_underlying ht, run_underlying htx, sizeOf, typeInfo, zeroValue, hi, hz, Builtin.lenOf, hmn, hms, hmw, hm0, hmb2, hroom, h63', h48', Question.forced, hfo, newRow, grownCap, asInt, asIntOf, hzc]
      congr 2
      apply Array.ext'
      simp [List.append_assoc]
def intT (t : TypeId) : Bool := match tyD t with
  | some (.int .i64) => true
  | _ => false
theorem intT_ok {t : TypeId} (h : intT t = true) : Try.prog.underlying t = some (.int .i64) := by
  unfold intT at h
  split at h
  · rename_i h1; exact tyD_ok h1
  · cases h
/-- append of a slice that is just made: of zeros. -/
theorem e_appZ {t tx e : TypeId} {size bytes : Nat} {S X : Operand} {v : Value} {m k q : Nat} {xs zs : List Value} (hF : Fr n ds l a) (hM : Mm own w0 bs L Fs w) (hS : ev l S = some v) (hX : ev l X = some (.int .i64 (q : Nat))) (he : elO t = some (e, size, bytes)) (htx : intT tx = true) (hz : (match te e with | some i => cellsO i.zero | none => none) = some zs) (h1 : oneL zs = true)
    (hL : Kth L k ⟨e, size, v, m, xs⟩) (h0 : 0 < q) (hb : (m + q) * bytes ≤ 140737488355328 ∧ m + q ≤ 9223372036854775807)
    (kk : ∀ g cap w', Mm own w0 bs (L.set k ⟨e, size, .slice (some ⟨g, 0, none⟩) (m + q) cap, m + q, xs ++ zerosL zs q⟩) Fs w' → K (a.put (some d) (.slice (some ⟨g, 0, none⟩) (m + q) cap)) w') :
    (⟨some d, .call ⟨.builtin .append, #[S, X], #[t, tx]⟩, ty, pos, af, g⟩ : Oper).wp Try.prog a w K Q := by
  obtain ⟨e1, e2, i, z, i1, i2, i3, i4, i5⟩ := elO_ok he
  have hzz : z.cells = ⟨zs⟩ := by
    split at hz
    · rename_i i' hi'
      obtain ⟨j, j1, j2, j3, j4⟩ := (te_ok hi').info
      rw [i1] at j1
      injection j1 with j1
      subst j1
      rw [i2] at j2
      injection j2 with j2
      subst j2
      exact cellsO_ok hz
    · cases hz
  obtain ⟨gb, c, w', hr, h2, h3, h4⟩ := run_append_make (P := Try.prog) w w0.heap.size t tx ty e i z size bytes e1 (intT_ok htx) i1 i2 i3 i4 i5 e2 v m xs (hM.mem.own.get hL.get) q h0 (by rw [hzz]; exact oneL_ok h1) (by unfold maxLen; exact hb.2) hb.1 hM.since.size
  rw [hzz] at h2
  unfold Oper.wp execOp
  simp only [resolve, invoke, builtin, Sem.run_bind, Sem.run_pure, Result.andThen_ok, List.map_toArray, List.map_cons, List.map_nil, hF.eval hS, hF.eval hX, hr]
  refine kk gb c w' (hM.app hL.get h2 h3 ?_)
  rcases h4 with h4 | h4
  · exact .inl h4.symm
  · exact .inr (by simp [Value.ownBlock, h4])
theorem s_appZ {t tx e : TypeId} {size bytes : Nat} {S X : Operand} {v : Value} {m k q : Nat} {xs zs : List Value} (hF : Fr n ds l a) (hM : Mm own w0 bs L Fs w) (hg : wantO os l g = some true) (hS : ev l S = some v) (hX : ev l X = some (.int .i64 (q : Nat))) (he : elO t = some (e, size, bytes)) (htx : intT tx = true) (hz : (match te e with | some i => cellsO i.zero | none => none) = some zs) (h1 : oneL zs = true)
    (hL : Kth L k ⟨e, size, v, m, xs⟩) (hd : Nat.blt d n = true) (h0 : 0 < q) (hb : (m + q) * bytes ≤ 140737488355328 ∧ m + q ≤ 9223372036854775807)
    (kk : ∀ g cap w' a, Mm own w0 bs (L.set k ⟨e, size, .slice (some ⟨g, 0, none⟩) (m + q) cap, m + q, xs ++ zerosL zs q⟩) Fs w' → Fr n ds ((d, .slice (some ⟨g, 0, none⟩) (m + q) cap) :: l) a → wl ⟨os⟩ Q rest a w') :
    wl ⟨os⟩ Q (⟨some d, .call ⟨.builtin .append, #[S, X], #[t, tx]⟩, ty, pos, af, g⟩ :: rest) a w :=
  s_op hF hg fun _ hK => e_appZ hF hM hS hX he htx hz h1 hL h0 hb fun g cap w' h => hK _ _ (kk g cap w' _ h (hF.put hd _))
/-- A slice made, whatever its elements. -/
theorem s_makeZ {t e : TypeId} {size bytes : Nat} {zs : List Value} {X Y : Operand} {kl kc : IntKind} {zl zc : Int} (c : Nat) (hF : Fr n ds l a) (hM : Mm own w0 bs L Fs w) (hg : wantO os l g = some true) (hX : ev l X = some (.int kl zl)) (hY : ev l Y = some (.int kc zc)) (he : elO t = some (e, size, bytes)) (hz : (match te e with | some i => cellsO i.zero | none => none) = some zs) (hd : Nat.blt d n = true) (hl : zl = (c : Int)) (hc : zc = (c : Int)) (hb : (bytes : Int) * (c : Int) ≤ 281474976710656 ∧ (c : Int) ≤ 9223372036854775807)
    (k : ∀ b w' a, Mm own w0 bs (⟨e, size, .slice (some ⟨b, 0, none⟩) c c, c, zerosL zs c⟩ :: L) Fs w' → Fr n ds ((d, .slice (some ⟨b, 0, none⟩) c c) :: l) a → wl ⟨os⟩ Q rest a w') : wl ⟨os⟩ Q (⟨some d, .makeSlice t X Y, ty, pos, af, g⟩ :: rest) a w := by
  subst hl
  subst hc
  obtain ⟨e1, e2, i, z, i1, i2, i3, i4, i5⟩ := elO_ok he
  have hzz : z.cells = ⟨zs⟩ := by
    split at hz
    · rename_i i' hi'
      obtain ⟨j, j1, j2, j3, j4⟩ := (te_ok hi').info
      rw [i1] at j1
      injection j1 with j1
      subst j1
      rw [i2] at j2
      injection j2 with j2
      subst j2
      exact cellsO_ok hz
    · cases hz
  have hr := run_make (P := Try.prog) w t e i z e1 i1 i2 kl kc (c : Int) (c : Int) (by omega) (Int.le_refl _) (by rw [i4]; exact hb.1) hb.2
  have hmz : madeCells z.cells (c * i.size) = (zerosL zs c).toArray := by
    have := zeros_eq (z := z.cells) (size := i.size) (len := c) (by rw [i5, i3])
    rw [hzz] at this ⊢
    exact this
  rw [Int.toNat_natCast, hmz] at hr
  refine s_op hF hg fun _ hK => upon_value (v := .slice (some ⟨w.heap.size, 0, none⟩) c c) (w' := w.alloc (.cells (zerosL zs c).toArray e)) ?_ (hK _ _ (k _ _ _ ((hM.box ⟨zerosL zs c⟩ e).boxRow size c ?_ ?_) (hF.put hd _)))
  · simp [execOp, hF.eval hX, hF.eval hY, hr, Sem.run_bind, Result.andThen]
  · rw [zerosL_len]
    have : zs.length = size := by rw [hzz] at i5; simpa using i5
    rw [this]
  · unfold maxLen; omega
theorem zerosL_ints {k : IntKind} {m : Nat} : ∀ q : Nat, zerosL ((List.replicate m (0 : Int)).map (Value.int k)) q = ((List.replicate q (List.replicate m (0 : Int))).flatten).map (Value.int k)
  | 0 => by simp [zerosL]
  | q + 1 => by rw [zerosL, zerosL_ints q, List.replicate_succ, List.flatten_cons, List.map_append]
/-- A row that is only read from then on. -/
theorem Mm.freezeRow {α : Type} {enc : α → Value} {e : TypeId} {ao : Option Addr} {m c : Nat} {xs : List α} (m0 : Mm own w0 bs (⟨e, 1, .slice ao m c, m, xs.map enc⟩ :: L) Fs w) : Mm own w0 bs L (RdF enc ao xs :: Fs) w := by
  have hrd := own_reads (m0.mem.own.own _ List.mem_cons_self)
  refine (m0.sub (.refl _) (List.sublist_cons_self _ _) (fun _ h => h)).addFact (RdF.has hrd ?_)
  rintro ad rfl
  have hob : (Value.slice (some ad) m c).ownBlock = some ad.block := rfl
  rintro (h | ⟨x, hx, hx2⟩ | ⟨y, hy, hy2⟩)
  · have h2 := m0.low _ h
    have h3 := (m0.mem.own.lt List.mem_cons_self _ hob).1
    omega
  · exact m0.mem.far x hx _ List.mem_cons_self (by rw [hob, hx2])
  · have hp := m0.mem.own.apart
    rw [List.pairwise_cons] at hp
    rcases hp.1 y hy with h | h
    · rw [show (Value.slice (some ad) m c).ownBlock = none from h] at hob; cases hob
    · exact h (hob.trans hy2.symm)
def isIf : Value → Bool
  | .iface _ _ => true
  | _ => false
theorem s_pan {X : Operand} {v : Value} {dst : Option Tmp} (hF : Fr n ds l a) (hg : wantO os l g = some true) (hX : ev l X = some v) (hv : isIf v = true) (k : Q (.panic [{ v, recovered := false }]) a w) : wl ⟨os⟩ Q (⟨dst, .panic X, ty, pos, af, g⟩ :: rest) a w := by
  refine s_op hF hg fun K hK => ?_
  have hr : (execOp a.eval ⟨dst, .panic X, ty, pos, af, g⟩).run Try.prog w = .halt (.panic v) w := by
    cases v <;> simp [isIf] at hv
    simp [execOp, hF.eval hX, Instr.panic, Sem.run_bind, Result.andThen]
  unfold Oper.wp
  rw [hr]
  exact k
/-- The high half of a number that has none. -/
theorem s_and32 {t t' : TypeId} {X Y : Operand} {x : Int} (hF : Fr n ds l a) (hg : wantO os l g = some true) (hX : ev l X = some (.int .u64 x)) (hY : ev l Y = some (.int .u64 4294967295)) (hd : Nat.blt d n = true) (h : 0 ≤ x ∧ x < 4294967296)
    (kk : ∀ a, Fr n ds ((d, .int .u64 x) :: l) a → wl ⟨os⟩ Q rest a w) : wl ⟨os⟩ Q (⟨some d, .binOp .and t X Y t', ty, pos, af, g⟩ :: rest) a w :=
  s_op hF hg fun _ hK => upon_value (e_bits hF hX hY (.inl rfl) (by
    obtain ⟨m, rfl⟩ : ∃ m : Nat, x = m := ⟨x.toNat, by omega⟩
    have h2 := bits_and_u64_nat m 4294967295 (by omega) (by omega)
    have e : m &&& 4294967295 = m % 4294967296 := Nat.and_two_pow_sub_one_eq_mod m 32
    rw [e] at h2
    have h3 : bits .and .u64 (m : Int) 4294967295 = ((m % 4294967296 : Nat) : Int) := h2
    rw [h3]
    omega) w) (hK _ _ (kk _ (hF.put hd _)))
theorem s_shr32 {t t' : TypeId} {X Y : Operand} {k yk : IntKind} {x : Int} (hF : Fr n ds l a) (hg : wantO os l g = some true) (hX : ev l X = some (.int k x)) (hY : ev l Y = some (.int yk 32)) (hd : Nat.blt d n = true) (hk : Nat.ble 32 k.bits = true) (h : 0 ≤ x ∧ x < 4294967296)
    (kk : ∀ a, Fr n ds ((d, .int k 0) :: l) a → wl ⟨os⟩ Q rest a w) : wl ⟨os⟩ Q (⟨some d, .binOp .shr t X Y t', ty, pos, af, g⟩ :: rest) a w := by
  refine s_op hF hg fun _ hK => upon_value (v := .int k 0) ?_ (hK _ _ (kk _ (hF.put hd _)))
  have hb : min 32 k.bits = 32 := Nat.min_eq_left (Nat.le_of_ble_eq_true hk)
  have hd0 : x / 4294967296 = 0 := Int.ediv_eq_zero_of_lt h.1 h.2
  simp only [execOp, hF.eval hX, hF.eval hY, Sem.run_bind, eqGuard_int, Result.andThen]
  simp [binOp, Op.shift, hb, Result.andThen, Int.fdiv_eq_ediv, hd0]
end
end Go.Proofs.Ytobflnjbdghnhaa
