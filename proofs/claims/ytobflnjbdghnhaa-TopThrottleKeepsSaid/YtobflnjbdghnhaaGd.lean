/- The runner of pure operations tells the truth. -/
import Derived.Test.YtobflnjbdghnhaaGc
set_option linter.unusedSimpArgs false
set_option linter.unusedVariables false
set_option linter.unusedSectionVars false
namespace Go.Proofs.Ytobflnjbdghnhaa
open Go.RowKit
theorem unO_ok {op : UnOp} {x v : Value} {p : Prop} (h : unO op x = some (v, p)) (hp : p) (w : World) : (Op.unary op x).run Try.prog w = .ok v w := by
  unfold unO at h
  split at h
  · injection h with h; injection h with h1 h2; subst h1; simp [Op.unary]
  · rw [rngO_ok h hp]; simp [Op.unary, Op.intArith]
  · cases h
theorem binO_ok {op : BinOp} {x y v : Value} {p : Prop} (h : binO op x y = some (v, p)) (hp : p) (t : TypeId) (X Y : Operand) (w : World) : (do eqGuard op t X Y x y; binOp op t x y : Sem Value).run Try.prog w = .ok v w := by
  unfold binO at h
  split at h
  · rename_i k x k' y
    rw [Sem.run_bind, eqGuard_int]
    simp only [Result.andThen]
    split at h
    · exact intOp_ok h hp t w
    · exact intOp_ok h hp t w
    · exact intOp_ok h hp t w
    · exact intOp_ok h hp t w
    · cases h
  · cases h
theorem rdV_part {T : TypeId} {cs : List Value} {off : Nat} {v : Value} (h : rdV T cs off = some v) (w : World) : (part T cs.toArray off).run Try.prog w = .ok v w := by
  unfold rdV at h
  split at h
  · rename_i ag sz by' de ze hi
    have ok := te_ok hi
    have ha := ok.agg w
    have hz := ok.size w
    simp only at ha hz
    unfold part
    split at h
    · split at h
      · rename_i r hr
        injection h with h
        subst h
        have := (rdV.seg_eq hr).1
        simp [Sem.run_bind, ha, Result.andThen, hz, this, List.drop_take]
      · cases h
    · rw [rdV.at'_eq] at h
      simp [Sem.run_bind, ha, Result.andThen, h]
  · cases h
theorem extract_ok {vs : List Value} {i : Nat} {v : Value} (h : extO vs i = some v) (w : World) : (Instr.extract (.tuple vs.toArray) i).run Try.prog w = .ok v w := by
  rw [extO_eq] at h
  simp [Instr.extract, h]
theorem fieldAt_ok {s : TypeId} {fs : List Field} {i : Nat} {f : Field} {n : Nat} {a : Addr} (h1 : tyD s = some (.struct ⟨fs⟩)) (h2 : getO fs i = some f) (h3 : tyS f.type = some (n + 1)) (w : World) :
    (Instr.fieldAt s (.pointer (some a)) i).run Try.prog w = .ok (.pointer (some (a.add f.offset))) w := by
  rw [getO_eq] at h2
  simp [Instr.fieldAt, Sem.run_bind, tyD_run h1, Result.andThen, h2, Instr.sureAddr, fieldPlace, tyS_run h3]
theorem add_lit (b o k : Nat) : (⟨b, o, none⟩ : Addr).add k = ⟨b, o + k, none⟩ := by
  unfold Addr.add
  split
  · rename_i h; subst h; rfl
  · rfl
theorem indexAt_slice {t e : TypeId} {n : Nat} {a : Addr} {len c : Nat} {k : IntKind} {j : Int} (h1 : tyD t = some (.slice e)) (h2 : tyS e = some n) (hj : 0 ≤ j ∧ j < len) (w : World) :
    (Instr.indexAt t (.slice (some a) len c) (.int k j)).run Try.prog w = .ok (.pointer (some (adr a j n))) w := by
  simp [Instr.indexAt, Sem.run_bind, tyD_run h1, Result.andThen, asIntOf, hj, tyS_run h2, adr]
theorem indexAt_array {t e : TypeId} {n : Nat} {a : Addr} {len : Nat} {k : IntKind} {j : Int} (h1 : tyD t = some (.array len e)) (h2 : tyS e = some n) (hj : 0 ≤ j ∧ j < len) (w : World) :
    (Instr.indexAt t (.pointer (some a)) (.int k j)).run Try.prog w = .ok (.pointer (some (adr a j n))) w := by
  simp [Instr.indexAt, Sem.run_bind, tyD_run h1, Result.andThen, asIntOf, hj, tyS_run h2, adr, Instr.sureAddr]
theorem convert_ok {s d : TypeId} {k k' : IntKind} {n : Int} {k0 : IntKind} {v : Value} {p : Prop} (h1 : tyD s = some (.int k0)) (h2 : tyD d = some (.int k)) (h : rngO k n = some (v, p)) (hp : p) (w : World) :
    (convert s d (.int k' n)).run Try.prog w = .ok v w := by
  rw [rngO_ok h hp]
  simp [convert, Sem.run_bind, tyD_run h1, tyD_run h2, Result.andThen, Conv.intToInt]
theorem makeInterface_ok {t : TypeId} {d : TypeDesc} {v : Value} (h1 : tyD t = some d) (hd : ∀ ms, d ≠ .interface ms) (w : World) : (Instr.makeInterface t v).run Try.prog w = .ok (.iface t v) w := by
  simp only [Instr.makeInterface, Sem.run_bind, tyD_run h1, Result.andThen]
  cases d <;> first | rfl | exact absurd rfl (hd _)
theorem placesO_ok : ∀ {fs : List Field} {ps : List (Nat × Nat)}, placesO fs = some ps → ∀ w, (fs.mapM fun f => Prod.mk f.offset <$> sizeOf f.type : Sem (List (Nat × Nat))).run Try.prog w = .ok ps w
  | [], ps, h, w => by simp [placesO] at h; subst h; simp
  | f :: r, ps, h, w => by
    unfold placesO at h
    split at h
    · rename_i n hn
      split at h
      · rename_i qs hq
        injection h with h
        subst h
        have ih := placesO_ok hq w
        simp [List.mapM_cons, Sem.run_bind, tyS_run hn, Result.andThen, ih]
      · cases h
    · cases h
theorem build_struct {t : TypeId} {i : TyI} {fs : List Field} {ps : List (Nat × Nat)} {vs : List (Nat × Value)} {cs : List Value} (h1 : te t = some i) (h2 : i.desc = .struct ⟨fs⟩) (h3 : placesO fs = some ps)
    (h4 : fillL (getO ps) i.zero.cells.toList vs = some cs) (w : World) : (Instr.build t vs.toArray).run Try.prog w = .ok (.agg cs.toArray) w := by
  have ok := te_ok h1
  have hu := run_underlying (h2 ▸ ok.und) w
  have hg : (fun x => ps[x]?) = getO ps := by funext k; rw [getO_eq]
  have hf : Instr.fill (fun x => ps[x]?) i.zero.cells vs = some cs.toArray := by rw [hg]; have := fillL_ok h4; simpa using this
  have hp := placesO_ok h3 w
  simp only [Instr.build, Sem.run_bind, ok.zero w, Result.andThen, hu]
  rw [Array.mapM_eq_mapM_toList]
  simp [Sem.run_bind, hp, Result.andThen, hf]
theorem build_array {t : TypeId} {i : TyI} {m : Nat} {e : TypeId} {n : Nat} {vs : List (Nat × Value)} {cs : List Value} (h1 : te t = some i) (h2 : i.desc = .array m e) (h3 : tyS e = some n)
    (h4 : fillL (fun i => some (i * n, n)) i.zero.cells.toList vs = some cs) (w : World) : (Instr.build t vs.toArray).run Try.prog w = .ok (.agg cs.toArray) w := by
  have ok := te_ok h1
  have hu := run_underlying (h2 ▸ ok.und) w
  have hf : Instr.fill (fun i => some (i * n, n)) i.zero.cells vs = some cs.toArray := by have := fillL_ok h4; simpa using this
  simp [Instr.build, Sem.run_bind, ok.zero w, Result.andThen, hu, tyS_run h3, hf]
theorem slice_ok {t e : TypeId} {n : Nat} {a : Option Addr} {len cap : Nat} {lo hi : Option Value} {l' h' : Int} (h1 : tyD t = some (.slice e)) (h2 : tyS e = some n)
    (hlo : (lo = none ∧ l' = 0) ∨ ∃ k, lo = some (.int k l')) (hhi : (hi = none ∧ h' = len) ∨ ∃ k, hi = some (.int k h')) (hp : 0 ≤ l' ∧ l' ≤ h' ∧ h' ≤ (cap : Int) ∧ 0 ≤ h') (w : World) :
    (Instr.sliceAt t (.slice a len cap) lo hi none).run Try.prog w = .ok (.slice (sadr a l'.toNat cap n) (h'.toNat - l'.toNat) (cap - l'.toNat)) w := by
  obtain ⟨p1, p2, p3, p4⟩ := hp
  have e : l' ≤ max h' 0 := by omega
  rcases hlo with ⟨rfl, rfl⟩ | ⟨k, rfl⟩ <;> rcases hhi with ⟨rfl, rfl⟩ | ⟨k2, rfl⟩ <;>
    simp [Instr.sliceAt, Instr.slice, Instr.sliceBounds, Instr.sliceBound, Sem.run_bind, tyD_run h1, tyS_run h2, Result.andThen, asIntOf, sadr, p1, p2, p3, p4, e]
theorem sliceLo {l : List (Nat × Value)} {a : Act} {n : Nat} {ds : List Deferred} (hF : Fr n ds l a) {lo : Option Operand} {d z : Int} (h : (match lo with | none => some d | some o => match ev l o with | some (.int _ z) => some z | _ => none) = some z) :
    (lo.map a.eval = none ∧ z = d) ∨ ∃ k, lo.map a.eval = some (.int k z) := by
  cases lo with
  | none => injection h with h; exact .inl ⟨rfl, h.symm⟩
  | some o =>
    right
    simp only at h
    split at h
    · rename_i k z' hz
      injection h with h
      subst h
      exact ⟨k, by simp [hF.eval hz]⟩
    · cases h
theorem pureO_ok {n : Nat} {ds : List Deferred} {l : List (Nat × Value)} {a : Act} (hF : Fr n ds l a) {o : Oper} {v : Value} {p : Prop} (h : pureO l o.op = some (v, p)) (hp : p) (w : World) : (execOp a.eval o).run Try.prog w = .ok (.value v) w := by
  obtain ⟨dst, op, ty, pos, af, g⟩ := o
  simp only at h
  cases op
  case move x =>
    simp only [pureO] at h
    split at h
    · rename_i u hu; injection h with h; injection h with h1 h2; subst h1; simp [execOp, hF.eval hu]
    · cases h
  case assign x =>
    simp only [pureO] at h
    split at h
    · rename_i u hu; injection h with h; injection h with h1 h2; subst h1; simp [execOp, hF.eval hu]
    · cases h
  case pick c x y =>
    simp only [pureO] at h
    split at h
    · rename_i b hc
      split at h
      · rename_i u v' hu hv
        cases b <;> (simp only at h; injection h with h; injection h with h1 h2; subst h1; simp [execOp, hF.eval hu, hF.eval hv, hF.eval hc, Sem.run_bind, asBool, Result.andThen])
      · cases h
    · cases h
  case binOp op t x y t' =>
    simp only [pureO] at h
    split at h
    · rename_i u v' hu hv
      have := binO_ok h hp t x y w
      simp only [execOp, hF.eval hu, hF.eval hv]
      rw [Sem.run_bind, this]
      rfl
    · cases h
  case unOp op t x =>
    simp only [pureO] at h
    split at h
    · rename_i u hu
      have := unO_ok h hp w
      simp only [execOp, hF.eval hu]
      rw [Sem.run_bind, this]
      rfl
    · cases h
  case extract x i =>
    simp only [pureO] at h
    split at h
    · rename_i vs hu
      split at h
      · rename_i v' hv
        injection h with h; injection h with h1 h2; subst h1
        have := extract_ok hv w
        simp only [execOp, hF.eval hu]
        rw [Sem.run_bind, this]
        rfl
      · cases h
    · cases h
  case makeFunc fn first capt =>
    obtain ⟨first⟩ := first
    obtain ⟨capt⟩ := capt
    simp only [pureO] at h
    split at h
    · rename_i f c hf hc
      injection h with h; injection h with h1 h2; subst h1
      simp [execOp, Instr.makeFunc, Sem.run_bind, Result.andThen, ← hF.evalL hf, ← hF.evalL hc]
    · cases h
  case nilCheck x =>
    simp only [pureO] at h
    split at h
    · rename_i a' hx
      injection h with h; injection h with h1 h2; subst h1
      simp [execOp, hF.eval hx]
    · rename_i f fi ca hx
      injection h with h; injection h with h1 h2; subst h1
      simp [execOp, hF.eval hx]
    · cases h
  case fieldAddr s x i =>
    simp only [pureO] at h
    split at h
    · rename_i fs hs
      split at h
      · rename_i f hf
        split at h
        · rename_i m hm
          split at h
          · rename_i b o hx
            injection h with h; injection h with h1 h2; subst h1
            have := fieldAt_ok (a := ⟨b, o, none⟩) hs hf hm w
            simp only [execOp, hF.eval hx]
            rw [Sem.run_bind, this, add_lit]
            rfl
          · rename_i a' hne hx
            injection h with h; injection h with h1 h2; subst h1
            have := fieldAt_ok (a := a') hs hf hm w
            simp only [execOp, hF.eval hx]
            rw [Sem.run_bind, this]
            rfl
          · cases h
        · cases h
      · cases h
    · cases h
  case field s x i =>
    simp only [pureO] at h
    split at h
    · rename_i fs hs
      split at h
      · rename_i f hf
        split at h
        · rename_i cs hx
          split at h
          · rename_i v' hv
            injection h with h; injection h with h1 h2; subst h1
            have := rdV_part hv w
            rw [getO_eq] at hf
            simp [execOp, hF.eval hx, Instr.field, Sem.run_bind, tyD_run hs, Result.andThen, hf, asAgg, this]
          · cases h
        · cases h
      · cases h
    · cases h
  case indexAddr t x i =>
    simp only [pureO] at h
    split at h
    · rename_i e he
      split at h
      · rename_i m hm
        split at h
        · rename_i a' len c k j hx hi
          injection h with h; injection h with h1 h2; subst h1 h2
          have := indexAt_slice (a := a') (c := c) (k := k) he hm hp w
          simp only [execOp, hF.eval hx, hF.eval hi]
          rw [Sem.run_bind, this]
          rfl
        · cases h
      · cases h
    · rename_i len e he
      split at h
      · rename_i m hm
        split at h
        · rename_i k j
          split at h
          · rename_i b o hx
            injection h with h; injection h with h1 h2; subst h1 h2
            have := indexAt_array (a := ⟨b, o, none⟩) (k := k) (j := (j : Int)) he hm (by omega) w
            have e : adr ⟨b, o, none⟩ (j : Int) m = ⟨b, o + j * m, none⟩ := by unfold adr; rw [add_lit]; rfl
            rw [e] at this
            have hi : a.eval (.const (.int k (.ofNat j))) = .int k (j : Int) := rfl
            simp only [execOp, hF.eval hx, hi]
            rw [Sem.run_bind, this]
            rfl
          · cases h
        · rename_i t'
          split at h
          · rename_i b o k j hx hi
            injection h with h; injection h with h1 h2; subst h1 h2
            have := indexAt_array (a := ⟨b, o, none⟩) (k := k) he hm hp w
            simp only [execOp, hF.eval hx, hF.eval hi]
            rw [Sem.run_bind, this]
            rfl
          · cases h
        · cases h
      · cases h
    · cases h
  case convert s d x =>
    simp only [pureO] at h
    split at h
    · rename_i k0 hs
      split at h
      · rename_i k hd
        split at h
        · rename_i k' m hx
          have := convert_ok (k' := k') hs hd h hp w
          simp only [execOp, hF.eval hx]
          rw [Sem.run_bind, this]
          rfl
        · cases h
      · cases h
    · cases h
  case makeInterface t x =>
    simp only [pureO] at h
    split at h
    · cases h
    · rename_i d hne hd
      split at h
      · rename_i u hu
        injection h with h; injection h with h1 h2; subst h1
        have := makeInterface_ok (v := u) hd (fun ms e => hne ms e) w
        simp only [execOp, hF.eval hu]
        rw [Sem.run_bind, this]
        rfl
      · cases h
    · cases h
  case call c =>
    obtain ⟨cal, ⟨args⟩, ⟨ts⟩⟩ := c
    cases cal with
    | value f => cases h
    | invoke r m => cases h
    | builtin b =>
      simp only [pureO] at h
      split at h
      · split at h
        · rename_i t x
          split at h
          · rename_i e he
            split at h
            · rename_i a' m c hx
              injection h with h; injection h with h1 h2; subst h1
              simp [execOp, resolve, invoke, builtin, Builtin.len_, hF.eval hx, Sem.run_bind, tyD_run he, Result.andThen, goInt]
            · cases h
          · rename_i m e he
            injection h with h; injection h with h1 h2; subst h1
            simp [execOp, resolve, invoke, builtin, Builtin.len_, Sem.run_bind, tyD_run he, Result.andThen, goInt]
          · cases h
        · cases h
      · split at h
        · rename_i k x k' y hx
          injection h with h; injection h with h1 h2; subst h1
          have := hF.evalL hx
          simp only [execOp, resolve, invoke, builtin, Builtin.max_, List.map_toArray, this]
          simp [Sem.run_bind, Builtin.max2, Result.andThen]
          omega
        · cases h
      · split at h
        · rename_i k x k' y hx
          injection h with h; injection h with h1 h2; subst h1
          have := hF.evalL hx
          simp only [execOp, resolve, invoke, builtin, Builtin.min_, List.map_toArray, this]
          simp [Sem.run_bind, Builtin.min2, Result.andThen]
          omega
        · cases h
      · cases h
  case build t parts =>
    obtain ⟨parts⟩ := parts
    simp only [pureO] at h
    split at h
    · rename_i i hi
      split at h
      · rename_i fs hd
        split at h
        · rename_i ps hps
          split at h
          · rename_i vs hvs
            split at h
            · rename_i cs hcs
              injection h with h; injection h with h1 h2; subst h1
              have := build_struct hi hd hps hcs w
              have he := hF.evalP hvs
              simp only [execOp, List.map_toArray, he]
              rw [Sem.run_bind, this]
              rfl
            · cases h
          · cases h
        · cases h
      · rename_i m e hd
        split at h
        · rename_i k hk
          split at h
          · rename_i vs hvs
            split at h
            · rename_i cs hcs
              injection h with h; injection h with h1 h2; subst h1
              have := build_array hi hd hk hcs w
              have he := hF.evalP hvs
              simp only [execOp, List.map_toArray, he]
              rw [Sem.run_bind, this]
              rfl
            · cases h
          · cases h
        · cases h
      · cases h
    · cases h
  case slice t x lo hi mx =>
    simp only [pureO] at h
    split at h
    · cases h
    · split at h
      · rename_i e he
        split at h
        · rename_i m hm
          split at h
          · rename_i a' len cap hx
            split at h
            · rename_i l' h' hlo hhi
              injection h with h; injection h with h1 h2; subst h1 h2
              have := slice_ok (a := a') he hm (sliceLo hF hlo) (sliceLo hF hhi) hp w
              simp only [execOp, hF.eval hx, Option.map_none]
              rw [Sem.run_bind, this]
              rfl
            · cases h
          · cases h
        · cases h
      · cases h
  all_goals cases h
end Go.Proofs.Ytobflnjbdghnhaa
