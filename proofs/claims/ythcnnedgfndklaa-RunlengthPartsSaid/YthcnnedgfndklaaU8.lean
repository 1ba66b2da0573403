/- runlength: Decode. -/
import Derived.Test.YthcnnedgfndklaaU7
import Derived.Test.YthcnnedgfndklaaGv
set_option linter.unusedSimpArgs false
set_option linter.unusedVariables false
set_option linter.unusedSectionVars false
namespace Go.Proofs.Ythcnnedgfndklaa
open Go.RowKit Go.Shelf
section
variable {n : Nat} {ds : List Deferred} {l : List (Nat × Value)} {a : Act} {w w0 : World} {own : Nat → Prop} {bs : List BoxE} {L : List Ent} {Fs : List (World → Prop)}
/-- The one deferred closure runs, and the results are read. -/
theorem f_leaveD {fn : Func} {rs : List ResultVar} {vs : List Value} {R : Ending → World → Prop} {fd : FuncId} {ca : List Value} {u : FrameMode} (hr : fn.results = ⟨rs⟩) (hF : Fr n [defF fd ca] l a) (he : memB entL fd = true) (hv : RL l bs rs vs) (hu : u ≠ .run)
    (hD : CallsD Try.prog fd ⟨ca⟩ u w fun e u' w' => (∃ v, e = .returned v) ∧ settle u' = .returning ∧ Mm own w0 bs L Fs w') (hR : ∀ w', Mm own w0 bs L Fs w' → R (.returned (resV vs)) w') : Leaves Try.prog fn a.tmps R a.defers u w :=
  leave1 hF.defs hu he (hD.mono fun _ _ _ ⟨h1, h2, h3⟩ => ⟨h1, h2, _, f_res hr hF h3 hv, hR _ h3⟩)
/-- A row of cells, as a fact. -/
theorem Mm.rowF {α : Type} {enc : α → Value} (m : Mm own w0 bs L Fs w) {e : TypeId} {size : Nat} {ao : Option Addr} {k c : Nat} {xs : List α} (h : (⟨e, size, .slice ao k c, k, xs.map enc⟩ : Ent) ∈ L) : Has own w (RdF enc ao xs) := by
  have ho := m.mem.own.own _ h
  refine RdF.has ?_ ?_
  · intro i x hx
    obtain ⟨hlen, hr⟩ := ho
    rcases hr with ⟨h1, h2⟩ | ⟨g, cap, cur, h1, h2, h3, h4⟩
    · simp only at hlen h2
      rw [h2, Nat.zero_mul, List.length_map] at hlen
      have := (List.getElem?_eq_some_iff.1 hx).1
      omega
    · simp only [Value.slice.injEq] at h1
      obtain ⟨rfl, _, rfl⟩ := h1
      have hc := (m.mem.own.own _ h).cells (g := g) rfl i (enc x) (by simp [hx])
      rw [add_lit] at hc
      exact ⟨g, 0, rfl, (Array.getElem?_eq_some_iff.1 h3).1, hc⟩
  · rintro ad rfl hn
    have h1 := m.mem.own.lt h ad.block rfl
    have := m.low _ hn
    omega
end
section
variable {own : Nat → Prop} {w0 w : World} {L : List Ent} {Fs : List (World → Prop)} {b4 b5 : Nat} {v4 : Value} {e5 : Int}
set_option maxRecDepth 20000 in
theorem dec1_panic (e : Int) (hM : Mm own w0 [⟨b5, ⟨[.int .i64 e5]⟩, 29⟩, ⟨b4, ⟨[v4]⟩, 22⟩] L Fs w) : CallsD Try.prog 27 ⟨[.pointer (some ⟨b4, 0, none⟩), .pointer (some ⟨b5, 0, none⟩)]⟩ (.panicking (fail e)) w
    fun e' u' w' => (∃ v, e' = .returned v) ∧ settle u' = .returning ∧ Mm own w0 [⟨b5, ⟨[.int .i64 e]⟩, 29⟩, ⟨b4, ⟨[.slice none 0 0]⟩, 22⟩] L Fs w' := by
  refine f_startS Try.func27 rfl Try.ntmps27 rfl rfl ?_; intro c₀ cs hmode a hF
  have hrec : recoverD (c₀ :: cs) = some (.iface 60 (.agg #[.int .i64 e]), { c₀ with mode := .panicking [{ v := .iface 60 (.agg #[.int .i64 e]), recovered := true }] } :: cs) := by
    rw [recoverD]
    simp only [hmode, fail]
  refine wpS_seq ?_
  apply c_recover hF
  · exact rfl
  · exact .inl hrec
  clear hF a
  intro a hF
  (repeat (first | (with_reducible refine s_nil ?_) | ((with_reducible apply s_pure hF); exact rfl; exact rfl; exact rfl; (first | exact trivial | omega | decide); clear hF a; intro a hF)))
  show Code.wpS _ _ _ _ _ _
  refine wpS_of_wp ?_
  show Wk none _ _ _ _
  (repeat' (first | (with_reducible refine w_seq ?_) | (with_reducible refine c_region ?_) | (with_reducible refine s_nil ?_) | ((with_reducible apply s_tas hF); exact rfl; exact rfl; exact rfl; exact rfl; clear hF a; intro a hF) | ((with_reducible apply s_eqn hF); exact rfl; exact rfl; exact rfl; exact rfl; exact rfl; exact rfl; clear hF a; intro a hF) | (with_reducible refine q_then_n ?_) | ((with_reducible apply s_pure hF); exact rfl; exact rfl; exact rfl; (first | exact trivial | omega | decide); clear hF a; intro a hF) | ((with_reducible apply s_load hF hM); exact rfl; exact rfl; (repeat (first | exact List.mem_cons_self | refine List.mem_cons_of_mem _ ?_)); exact rfl; exact rfl; clear hF a; intro a hF) | ((with_reducible apply s_store hF hM); exact rfl; exact rfl; exact rfl; exact rfl; (repeat (first | exact Upd.z | apply Upd.s)); exact rfl; exact rfl; exact rfl; clear hM; intro w hM) | ((with_reducible apply s_alloc hF hM); exact rfl; exact rfl; exact rfl; clear hF hM a; intro b w a hM hF) | ((with_reducible apply c_true hF); exact rfl)))
  refine ⟨hF.defs, _, rfl, _, f_res (rs := []) (vs := []) rfl hF hM .nil, ⟨_, rfl⟩, rfl, ?_⟩
  exact hM.sub (.cons _ (.refl _)) (.refl _) (fun _ h => h)
set_option maxRecDepth 20000 in
theorem dec1_ret {bs : List BoxE} (p4 p5 : Value) (hM : Mm own w0 bs L Fs w) : CallsD Try.prog 27 ⟨[p4, p5]⟩ .returning w
    fun e' u' w' => (∃ v, e' = .returned v) ∧ settle u' = .returning ∧ Mm own w0 bs L Fs w' := by
  refine f_startS Try.func27 rfl Try.ntmps27 rfl rfl ?_; intro c₀ cs hmode a hF
  have hrec : recoverD (c₀ :: cs) = none := by
    rw [recoverD]
    simp only [hmode]
  refine wpS_seq ?_
  apply c_recover hF
  · exact rfl
  · exact .inr ⟨hrec, rfl, rfl⟩
  clear hF a
  intro a hF
  (repeat (first | (with_reducible refine s_nil ?_) | ((with_reducible apply s_pure hF); exact rfl; exact rfl; exact rfl; (first | exact trivial | omega | decide); clear hF a; intro a hF)))
  show Code.wpS _ _ _ _ _ _
  refine wpS_of_wp ?_
  show Wk none _ _ _ _
  (repeat' (first | (with_reducible refine w_seq ?_) | (with_reducible refine c_region ?_) | (with_reducible refine s_nil ?_) | ((with_reducible apply s_eqn hF); exact rfl; exact rfl; exact rfl; exact rfl; exact rfl; exact rfl; clear hF a; intro a hF) | (with_reducible refine q_then_n ?_) | ((with_reducible apply s_pure hF); exact rfl; exact rfl; exact rfl; (first | exact trivial | omega | decide); clear hF a; intro a hF) | (with_reducible refine w_skip ?_) | ((with_reducible apply c_false hF); exact rfl)))
  refine ⟨hF.defs, .returning, ?_, _, f_res (rs := []) (vs := []) rfl hF hM .nil, ⟨_, rfl⟩, rfl, hM⟩
  rw [← hmode]
end
/-- All groups that are read. -/
def decF (most : Nat) : Nat → List Int → List (List Int) → Except Int (List (List Int))
  | 0, _, ls => .ok ls
  | f + 1, xs, ls => if xs.length = 0 then .ok ls else match grpD most xs ls with
    | .error e => .error e
    | .ok (zs, ls') => decF most f zs ls'
/-- What Decode answers. -/
def dec (most : Nat) (b : List Int) : Except Int (List (List Int)) := match decF most b.length b [] with
  | .error e => .error e
  | .ok ls => if enc ls = b then .ok ls else .error 3
theorem decF_err {most f : Nat} {xs : List Int} {ls : List (List Int)} {e : Int} (h0 : xs.length ≠ 0) (h : grpD most xs ls = .error e) : decF most (f + 1) xs ls = .error e := by
  rw [decF, if_neg h0, h]
theorem decF_ok {most f : Nat} {xs zs : List Int} {ls ls' : List (List Int)} (h0 : xs.length ≠ 0) (h : grpD most xs ls = .ok (zs, ls')) : decF most (f + 1) xs ls = decF most f zs ls' := by
  rw [decF, if_neg h0, h]
theorem decF_nil {most f : Nat} {xs : List Int} {ls : List (List Int)} (h0 : xs.length = 0) : decF most f xs ls = .ok ls := by
  cases f with
  | zero => rfl
  | succ f => rw [decF, if_pos h0]
theorem dec_err {most : Nat} {b : List Int} {e : Int} (h : decF most b.length b [] = .error e) : dec most b = .error e := by unfold dec; rw [h]
theorem dec_ok {most : Nat} {b : List Int} {ls : List (List Int)} (h : decF most b.length b [] = .ok ls) : dec most b = if enc ls = b then .ok ls else .error 3 := by unfold dec; rw [h]
theorem rdN_used : ∀ (f i : Nat) (n : Int) (xs : List Int), (rdN xs f i n).2.1 = 0 → i + 1 ≤ (rdN xs f i n).2.2 ∧ (rdN xs f i n).2.2 ≤ xs.length ∧ (rdN xs f i n).2.2 ≤ i + f
  | 0, _, _, _, h => by rw [rdN] at h; cases h
  | f + 1, i, n, xs, h => by
    cases hb : xs[i]? with
    | none => rw [rdN_none hb] at h; cases h
    | some b =>
      rw [rdN_some hb] at h ⊢
      have := (List.getElem?_eq_some_iff.1 hb).1
      split
      · rename_i h1
        rw [if_pos h1] at h
        have := rdN_used f (i + 1) _ xs h
        omega
      · rename_i h1
        rw [if_neg h1] at h
        split
        · rename_i h2
          rw [if_pos h2] at h
          cases h
        · simp only
          omega
theorem chunks_8 : ∀ (c : Nat) (ys : List Int), 8 * c ≤ ys.length → W8 (chunks c ys)
  | 0, _, _ => by intro y hy; cases hy
  | c + 1, ys, h => by
    intro y hy
    rw [chunks] at hy
    rcases List.mem_cons.1 hy with rfl | hy
    · rw [List.length_take]; omega
    · exact chunks_8 c (ys.drop 8) (by rw [List.length_drop]; omega) y hy
theorem W8.app {l m : List (List Int)} (h : W8 l) (k : W8 m) : W8 (l ++ m) := fun y hy => (List.mem_append.1 hy).elim (h y) (k y)
theorem W8.rep {s : List Int} (h : s.length = 8) (c : Nat) : W8 (List.replicate c s) := fun y hy => by rw [List.eq_of_mem_replicate hy]; exact h
def By (xs : List Int) : Prop := ∀ x ∈ xs, 0 ≤ x ∧ x < 256
/-- Sectors of bytes. -/
def B8 (l : List (List Int)) : Prop := ∀ s ∈ l, By s
theorem By.take {xs : List Int} (h : By xs) (k : Nat) : By (xs.take k) := fun x hx => h x (List.mem_of_mem_take hx)
theorem By.drop {xs : List Int} (h : By xs) (k : Nat) : By (xs.drop k) := fun x hx => h x (List.mem_of_mem_drop hx)
theorem B8.app {l m : List (List Int)} (h : B8 l) (k : B8 m) : B8 (l ++ m) := fun y hy => (List.mem_append.1 hy).elim (h y) (k y)
theorem B8.rep {s : List Int} (h : By s) (c : Nat) : B8 (List.replicate c s) := fun y hy => by rw [List.eq_of_mem_replicate hy]; exact h
theorem B8.flat {l : List (List Int)} (h : B8 l) : By l.flatten := fun x hx => by
  obtain ⟨s, hs, hx⟩ := List.mem_flatten.1 hx
  exact h s hs x hx
theorem chunks_B : ∀ (c : Nat) (ys : List Int), By ys → B8 (chunks c ys)
  | 0, _, _ => by intro y hy; cases hy
  | c + 1, ys, h => by
    intro y hy
    rw [chunks] at hy
    rcases List.mem_cons.1 hy with rfl | hy
    · exact h.take 8
    · exact chunks_B c (ys.drop 8) (h.drop 8) y hy
theorem zr_By : By zr := by intro x hx; simp at hx; omega
theorem puts_By (n : Nat) : By (puts n) := by
  induction n using Nat.strongRecOn with
  | _ n ih =>
    by_cases h : n < 128
    · rw [puts_lt h]
      intro x hx
      simp at hx
      omega
    · rw [puts_ge h]
      intro x hx
      rcases List.mem_cons.1 hx with rfl | hx
      · omega
      · exact ih (n / 128) (by omega) x hx
theorem enc_bytes {l : List (List Int)} (h : B8 l) : By (enc l) := by
  intro x hx
  unfold enc at hx
  obtain ⟨i, _, hx⟩ := List.mem_flatMap.1 hx
  unfold encG encS at hx
  rcases List.mem_append.1 hx with hx | hx
  · exact puts_By _ x hx
  · exact B8.flat (fun s hs => h s (List.mem_of_mem_drop (List.mem_of_mem_take hs))) x hx
/-- What a group that is read leaves. -/
theorem grpD_ok {most : Nat} {xs zs : List Int} {ls ls' : List (List Int)} (h : grpD most xs ls = .ok (zs, ls')) : ∃ k, 1 ≤ k ∧ k ≤ xs.length ∧ zs = xs.drop k ∧ ls'.length ≤ most ∧ ls.length < ls'.length ∧ (W8 ls → W8 ls') ∧ (By xs → B8 ls → B8 ls') := by
  unfold grpD at h
  split at h
  · cases h
  rename_i he
  have he : (rdNum xs).2.1 = 0 := by simpa using he
  have hu := rdN_used 8 0 0 xs he
  rw [show rdN xs 8 0 0 = rdNum xs from rfl] at hu
  simp only at h
  generalize (rdNum xs).1.toNat = N at h
  generalize (rdNum xs).2.2 = k at h hu
  split at h
  · cases h
  rename_i h1
  split at h
  · cases h
  rename_i h2
  have hd := List.length_drop (i := k) (l := xs)
  split at h
  · split at h
    · cases h
    · rename_i h3 h4
      injection h with h
      injection h with ha hb
      subst ha hb
      refine ⟨k + 8 * (N / 4), by omega, by omega, by rw [List.drop_drop], ?_, ?_, fun hw => hw.app (chunks_8 _ _ (by omega)), fun hx hb => hb.app (chunks_B _ _ (hx.drop _))⟩
      · rw [List.length_append, chunks_len]; omega
      · rw [List.length_append, chunks_len]; omega
  · split at h
    · split at h
      · cases h
      · rename_i h3 h4 h5
        injection h with h
        injection h with ha hb
        subst ha hb
        refine ⟨k + 8, by omega, by omega, by rw [List.drop_drop], ?_, ?_, fun hw => hw.app (W8.rep (by rw [List.length_take]; omega) _), fun hx hb => hb.app (B8.rep ((hx.drop _).take _) _)⟩
        · rw [List.length_append, List.length_replicate]; omega
        · rw [List.length_append, List.length_replicate]; omega
    · injection h with h
      injection h with ha hb
      subst ha hb
      refine ⟨k, by omega, by omega, rfl, ?_, ?_, fun hw => hw.app (W8.rep rfl _), fun hx hb => hb.app (B8.rep zr_By _)⟩
      · rw [List.length_append, List.length_replicate]; omega
      · rw [List.length_append, List.length_replicate]; omega
section
variable (xs : List Int) (hxb : ∀ x ∈ xs, 0 ≤ x ∧ x < 256) (hlen : xs.length ≤ 1000000) (a0 : Option Addr) (c0 : Nat) (hc0 : xs.length ≤ c0) (most : Nat) (hmost : most ≤ 4096) (ls : List (List Int)) (hls : W8 ls) (hlm : ls.length ≤ most) {own : Nat → Prop} {w0 W : World} {bs : List BoxE} {L : List Ent} {Fs : List (World → Prop)} {b : Nat} {ov : Value}
  (hM : Mm own w0 (⟨b, ⟨[.slice a0 xs.length c0, .int .i64 most, ov]⟩, 66⟩ :: bs) (⟨38, 8, ov, ls.length, ls.flatten.map (Value.int .u8)⟩ :: L) (RdF (Value.int .u8) a0 xs :: Fs) W)
include hxb hlen hc0 hmost hls hlm hM
theorem group_ok {zs : List Int} {ls' : List (List Int)} (h : grpD most xs ls = .ok (zs, ls')) : Calls Try.prog 28 ⟨[.pointer (some ⟨b, 0, none⟩)]⟩ W (Rtn fun _ w' => ∃ a1 c1 ov', zs.length ≤ c1 ∧ Mm own w0 (⟨b, ⟨[.slice a1 zs.length c1, .int .i64 most, ov']⟩, 66⟩ :: bs) (⟨38, 8, ov', ls'.length, ls'.flatten.map (Value.int .u8)⟩ :: L) (RdF (Value.int .u8) a1 zs :: Fs) w') := by
  refine (group_c xs hxb hlen a0 c0 hc0 most hmost ls hls hlm hM).mono ?_
  intro e w' he
  cases e with
  | returned v =>
    obtain ⟨zs2, ls2, a1, c1, ov', h1, h2, h3⟩ := he
    rw [h] at h1
    injection h1 with h1
    injection h1 with h4 h5
    subst h4 h5
    exact ⟨a1, c1, ov', h2, h3⟩
  | panicked c =>
    obtain ⟨e, bs', L', Fs', h1, _⟩ := he
    rw [h] at h1
    cases h1
  | outgrown => exact he
theorem group_err {e : Int} (h : grpD most xs ls = .error e) : Calls Try.prog 28 ⟨[.pointer (some ⟨b, 0, none⟩)]⟩ W (Both (fun _ _ => False) fun c w' => c = fail e ∧ ∃ bs' L' Fs', Mm own w0 (⟨b, bs', 66⟩ :: bs) L' Fs' w') := by
  refine (group_c xs hxb hlen a0 c0 hc0 most hmost ls hls hlm hM).mono ?_
  intro e' w' he
  cases e' with
  | returned v =>
    obtain ⟨zs2, ls2, a1, c1, ov', h1, h2, h3⟩ := he
    rw [h] at h1
    cases h1
  | panicked c =>
    obtain ⟨e2, bs', L', Fs', h1, h2, h3⟩ := he
    rw [h] at h1
    injection h1 with h1
    subst h1
    exact ⟨h2, bs', L', Fs', h3⟩
  | outgrown => exact he
end
/-- The bound that Decode takes. -/
def mst (most : Int) : Nat := (min (max most 0) 4096).toNat
def DecR (W : World) (r : Except Int (List (List Int))) (v : Value) (w' : World) : Prop := match r with
  | .error e => v = .tuple #[.slice none 0 0, .int .i64 e]
  | .ok ls => ∃ a' c', v = .tuple #[.slice a' ls.length c', .int .i64 0] ∧ Owns w' W.heap.size [⟨38, 8, .slice a' ls.length c', ls.length, ls.flatten.map (Value.int .u8)⟩]
set_option maxRecDepth 20000 in
theorem Decode_c (xb : List Int) (hxb : ∀ x ∈ xb, 0 ≤ x ∧ x < 256) (hlen : xb.length ≤ 1000000) (most : Int) (a0 : Option Addr) (c0 : Nat) (hc0 : xb.length ≤ c0) (own : Nat → Prop) (W : World) (hl : ∀ b, own b → b < W.heap.size) (hv : Has own W (RdF (Value.int .u8) a0 xb)) :
    Calls Try.prog 15 ⟨[.slice a0 xb.length c0, .int .i64 most]⟩ W (Ret W (DecR W (dec (mst most) xb))) := by
  have hM := (Mm.start hl).known hv
  obtain ⟨mo, hmo⟩ : ∃ mo : Nat, mst most = mo := ⟨_, rfl⟩
  have hmo2 : min (max most 0) 4096 = (mo : Int) := by unfold mst at hmo; omega
  have hmo3 : mo ≤ 4096 := by omega
  rw [hmo]
  refine f_startD Try.func15 rfl Try.ntmps15 rfl rfl ?_; intro a hF
  (repeat (first | (with_reducible refine w_seq ?_) | (with_reducible refine c_region ?_) | (with_reducible refine s_nil ?_) | ((with_reducible apply s_defer hF); exact rfl; exact rfl; clear hF a; intro a hF) | (with_reducible refine q_then_n ?_) | ((with_reducible apply s_pure hF); exact rfl; exact rfl; exact rfl; (first | exact trivial | omega | decide); clear hF a; intro a hF) | ((with_reducible apply s_alloc hF hM); exact rfl; exact rfl; exact rfl; clear hF hM a; intro b w a hM hF) | ((with_reducible apply s_box hF hM); exact rfl; exact rfl; exact rfl; exact rfl; clear hF hM a; intro b w a hM hF) | (with_reducible refine w_block ?_)))
  rename_i b4 _ b5 _
  rw [hmo2] at hM
  replace hM := dup0 (hM.nilRow 38 8)
  refine c_loop (m := xb.length) (fun m a w' => ∃ (xs : List Int) (ls : List (List Int)) (a1 : Option Addr) (c1 : Nat) (ov : Value), xs.length ≤ m ∧ xs.length ≤ xb.length ∧ (∀ x ∈ xs, 0 ≤ x ∧ x < 256) ∧ xs.length ≤ c1 ∧ W8 ls ∧ B8 ls ∧ ls.length ≤ mo ∧ decF mo xb.length xb [] = decF mo m xs ls ∧
    Fr 36 [defF 27 [.pointer (some ⟨b4, 0, none⟩), .pointer (some ⟨b5, 0, none⟩)]] [(6, .pointer (some ⟨b, 0, none⟩)), (0, .slice a0 xb.length c0), (4, .pointer (some ⟨b4, 0, none⟩)), (5, .pointer (some ⟨b5, 0, none⟩))] a ∧
    Mm own W [⟨b, ⟨[.slice a1 xs.length c1, .int .i64 mo, ov]⟩, 66⟩, ⟨b5, ⟨[.int .i64 0]⟩, 29⟩, ⟨b4, ⟨[.slice none 0 0]⟩, 22⟩] [⟨38, 8, ov, ls.length, ls.flatten.map (Value.int .u8)⟩] [RdF (Value.int .u8) a1 xs, RdF (Value.int .u8) a0 xb] w')
    ⟨xb, [], a0, c0, _, Nat.le_refl _, Nat.le_refl _, hxb, hc0, (by intro y hy; cases hy), (by intro y hy; cases hy), Nat.zero_le _, rfl, hF.sub (by repeat (first | exact Sub.nil | refine Sub.cons rfl (by first | with_reducible rfl | (refine congrArg (Value.int _) ?_; omega) | exact rfl) ?_)), hM⟩ ?_
  clear hF hM a
  rintro m a w' ⟨xs, ls, a1, c1, ov, hm, hxl, hxb1, hc1, hls, hlB, hlm, hdec, hF, hM⟩
  by_cases h0 : xs.length = 0
  · rw [decF_nil h0] at hdec
    have hD := dec_ok hdec
    obtain ⟨ao, co, rfl⟩ : ∃ ao co, ov = .slice ao ls.length co := by
      rcases (hM.mem.own.own _ List.mem_cons_self).2 with ⟨h1, h2⟩ | ⟨g, cap, cur, h1, _⟩
      · exact ⟨none, 0, by rw [show ls.length = 0 from h2]; exact h1⟩
      · exact ⟨_, _, h1⟩
    have hcap := row_capB hM List.mem_cons_self
    have henc := encL_len hls (by omega) (grp ls) (by have := grpF_len (l := ls) ls.length 0; unfold grp; omega)
    have hencb := enc_bytes hlB
    (repeat' (first | (with_reducible refine w_seq ?_) | (with_reducible refine c_region ?_) | (with_reducible refine s_nil ?_) | ((with_reducible apply s_callO (f := 11) hF); exact rfl; exact rfl; exact rfl; exact rfl; exact rfl; exact (Encode_c ls hls (by omega) ao co hcap own _ (fun b h => hM.lt b (.inl h)) (hM.rowF List.mem_cons_self)); clear hF a; rintro v wn a ⟨a2, c2, rfl, hO⟩ hS hF; replace hM := hM.addRows hS hO; clear hS hO; dsimp only [List.cons_append, List.nil_append] at hM) | ((with_reducible apply s_call (f := 12) hF hM); exact rfl; exact rfl; exact rfl; exact rfl; exact rfl; exact (equalB_c (enc ls) xb hencb hxb a2 a0 _ _ c2 c0 rfl rfl own _ (fun b h => hM.lt b (.inl h)) (hM.rowF List.mem_cons_self) ((hM.facts (RdF (Value.int .u8) a0 xb) (by (repeat (first | exact List.mem_cons_self | refine List.mem_cons_of_mem _ ?_)))).own_eq (fun _ h => .inl h))); clear hF hM a; rintro v w a rfl - hM hF) | (with_reducible refine q_then_n ?_) | ((with_reducible apply s_pure hF); exact rfl; exact rfl; exact rfl; (first | exact trivial | omega | decide); clear hF a; intro a hF) | ((with_reducible apply s_load hF hM); exact rfl; exact rfl; (repeat (first | exact List.mem_cons_self | refine List.mem_cons_of_mem _ ?_)); exact rfl; exact rfl; clear hF a; intro a hF) | ((with_reducible apply s_store hF hM); exact rfl; exact rfl; exact rfl; exact rfl; (repeat (first | exact Upd.z | apply Upd.s)); exact rfl; exact rfl; exact rfl; clear hM; intro w hM) | (with_reducible refine w_skip ?_) | (with_reducible refine w_exit ?_) | (with_reducible refine w_ret ?_) | (with_reducible refine q_then_x ?_) | (with_reducible refine q_then_r ?_) | (with_reducible refine q_blk_x ?_) | ((with_reducible apply c_dec hF); exact rfl; all_goals intro hc; all_goals (try (exfalso; omega))) | ((with_reducible apply c_ndec hF); exact rfl; all_goals intro hc; all_goals (try (exfalso; omega)))))
    · have hne : enc ls ≠ xb := by assumption
      rw [if_neg hne] at hD
      rw [hD]
      apply f_leaveD (hr := Try.results15) (hF := hF) (he := rfl) (hu := fun h => by cases h) (hD := (dec1_ret _ _ hM))
      · (repeat (first | exact RL.nil | (apply RL.tmp; exact rfl) | (apply RL.cell; exact rfl; (repeat (first | exact List.mem_cons_self | refine List.mem_cons_of_mem _ ?_)); exact rfl)))
      intro w' hM'
      exact Ret.mk hM'.since rfl
    · have he : enc ls = xb := by assumption
      rw [if_pos he] at hD
      rw [hD]
      apply f_leaveD (hr := Try.results15) (hF := hF) (he := rfl) (hu := fun h => by cases h) (hD := (dec1_ret _ _ hM))
      · (repeat (first | exact RL.nil | (apply RL.tmp; exact rfl) | (apply RL.cell; exact rfl; (repeat (first | exact List.mem_cons_self | refine List.mem_cons_of_mem _ ?_)); exact rfl)))
      intro w' hM'
      exact Ret.mk hM'.since ⟨ao, co, rfl, (hM'.sub (.refl _) (.cons _ (.refl _)) (fun _ h => h)).mem.own⟩
  · obtain ⟨m, rfl⟩ : ∃ m', m = m' + 1 := ⟨m - 1, by omega⟩
    cases hg : grpD mo xs ls with
    | error e =>
      rw [decF_err h0 hg] at hdec
      rw [dec_err hdec]
      (repeat' (first | (with_reducible refine w_seq ?_) | (with_reducible refine c_region ?_) | (with_reducible refine s_nil ?_) | ((with_reducible apply s_callB (f := 28) hF); exact rfl; exact rfl; exact rfl; exact rfl; exact rfl; exact (group_err xs hxb1 (by omega) a1 c1 hc1 mo hmo3 ls hls hlm hM hg); rotate_left; (intro _ _ _ h; exact h.elim); clear hF hM a; rintro c w a ⟨rfl, bs1, L1, Fs1, hM⟩ hF) | (with_reducible refine q_then_p ?_) | (with_reducible refine q_blk_p ?_) | (with_reducible refine q_then_n ?_) | ((with_reducible apply s_pure hF); exact rfl; exact rfl; exact rfl; (first | exact trivial | omega | decide); clear hF a; intro a hF) | ((with_reducible apply s_load hF hM); exact rfl; exact rfl; (repeat (first | exact List.mem_cons_self | refine List.mem_cons_of_mem _ ?_)); exact rfl; exact rfl; clear hF a; intro a hF) | (with_reducible refine w_skip ?_) | (with_reducible refine w_block ?_) | ((with_reducible apply c_dec hF); exact rfl; all_goals intro hc; all_goals (try (exfalso; omega)))))
      apply f_leaveD (hr := Try.results15) (hF := hF) (he := rfl) (hu := fun h => by cases h) (hD := (dec1_panic e (hM.sub (.cons _ (.refl _)) (.refl _) (fun _ h => h))))
      · (repeat (first | exact RL.nil | (apply RL.tmp; exact rfl) | (apply RL.cell; exact rfl; (repeat (first | exact List.mem_cons_self | refine List.mem_cons_of_mem _ ?_)); exact rfl)))
      intro w' hM'
      exact Ret.mk hM'.since rfl
    | ok p =>
      obtain ⟨zs, ls'⟩ := p
      rw [decF_ok h0 hg] at hdec
      obtain ⟨k, hk1, hk2, rfl, hk4, hk5, hk6, hk7⟩ := grpD_ok hg
      (repeat' (first | (with_reducible refine w_seq ?_) | (with_reducible refine c_region ?_) | (with_reducible refine s_nil ?_) | ((with_reducible apply s_callM (f := 28) hF); exact rfl; exact rfl; exact rfl; exact rfl; exact rfl; exact (group_ok xs hxb1 (by omega) a1 c1 hc1 mo hmo3 ls hls hlm hM hg); clear hF hM a; rintro v w a ⟨a3, c3, ov3, hc3, hM⟩ hF) | (with_reducible refine q_then_n ?_) | ((with_reducible apply s_pure hF); exact rfl; exact rfl; exact rfl; (first | exact trivial | omega | decide); clear hF a; intro a hF) | ((with_reducible apply s_load hF hM); exact rfl; exact rfl; (repeat (first | exact List.mem_cons_self | refine List.mem_cons_of_mem _ ?_)); exact rfl; exact rfl; clear hF a; intro a hF) | (with_reducible refine w_skip ?_) | (with_reducible refine w_block ?_) | (with_reducible refine q_blk_n ?_) | ((with_reducible apply c_dec hF); exact rfl; all_goals intro hc; all_goals (try (exfalso; omega)))))
      have hdl := List.length_drop (i := k) (l := xs)
      exact ⟨m, by omega, xs.drop k, ls', a3, c3, ov3, by omega, by omega, fun x hx => hxb1 x (List.mem_of_mem_drop hx), hc3, hk6 hls, hk7 hxb1 hlB, hk4, hdec, hF.sub (by repeat (first | exact Sub.nil | refine Sub.cons rfl (by first | with_reducible rfl | (refine congrArg (Value.int _) ?_; omega) | exact rfl) ?_)), hM⟩
end Go.Proofs.Ythcnnedgfndklaa
