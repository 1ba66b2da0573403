/- Texts of this seat, one behind the other: S6 S7 S8. -/
import Derived.Test.YtonelgecjmpbgaaQVCd
set_option linter.unusedSimpArgs false
set_option linter.unusedVariables false
set_option linter.unusedSectionVars false
set_option maxRecDepth 3000
/- Layer 29: the laws' own functions: chunks, collide. -/
namespace Go.Proofs.Ytonelgecjmpbgaa
open Go.RowKit Go.Shelf D29
section
variable {n : Nat} {ds : List Deferred} {l : List (Nat × Value)} {a : Act} {w : World} {os rest : List Oper} {Q : Exit → Act → World → Prop} {d : Nat} {ty : TypeId} {pos : String} {af : Array Edge} {g : Option (Nat × Bool)}
theorem s_neB {t t' : TypeId} {X Y : Operand} {x y : Bool} (hF : Fr n ds l a) (hg : wantO os l g = some true) (hX : ev l X = some (.bool x)) (hY : ev l Y = some (.bool y)) (hu : Try.prog.underlying t = some .bool) (hq : Try.prog.eqGuardType Try.prog.depth t = false) (hd : Nat.blt d n = true)
    (kk : ∀ a, Fr n ds ((d, .bool (decide (x ≠ y))) :: l) a → wl ⟨os⟩ Q rest a w) : wl ⟨os⟩ Q (⟨some d, .binOp .neq t X Y t', ty, pos, af, g⟩ :: rest) a w :=
  s_op hF hg fun _ hK => upon_value (e_neB hF hX hY hu hq w) (hK _ _ (kk _ (hF.put hd _)))
end
namespace D29
theorem unq_snoc : ∀ (xs : List Dat) (x : Dat) (l : List Itm), unq (xs ++ [x]) l = if hasD (unq xs l) x then unq xs l else unq xs l ++ [(⟨dg x, x⟩ : Itm)]
  | [], x, l => by
    show unq [x] l = _
    rw [unq]
    rfl
  | y :: r, x, l => by
    rw [List.cons_append, unq, unq_snoc r x]
    rfl
abbrev C1 := {v : Value // v.oneCell' = true}
/-- The cells of items. -/
def cells1 : List P → List C1
  | [] => []
  | p :: l => ⟨.int .u64 p.1.d, rfl⟩ :: ⟨.slice p.2.1 p.1.x.length p.2.2, rfl⟩ :: cells1 l
theorem cells1_val : ∀ l : List P, (cells1 l).map Subtype.val = cellsP l
  | [] => rfl
  | p :: l => by
    have := cells1_val l
    unfold cellsP at this ⊢
    rw [cells1, List.map_cons, List.map_cons, this]
    rfl
theorem rdC1 {own : Nat → Prop} {w : World} {a : Option Addr} {l : List P} (h : Has own w (RdF id a (cellsP l))) : Has own w (RdF Subtype.val a (cells1 l)) := h.imp fun w h i x hx => h i x.val (by rw [← cells1_val, List.getElem?_map, hx]; rfl)
/-- A store in a slice of stores. -/
abbrev SL := Int × List P × Option Addr × Nat
abbrev stC (s : SL) : List Value := [.int .i64 s.1, .slice s.2.2.1 s.2.1.length s.2.2.2]
theorem stC_len (S : List SL) : ∀ y ∈ S.map stC, y.length = 2 := by
  intro y hy
  obtain ⟨p, -, rfl⟩ := List.mem_map.1 hy
  rfl
def StF (S : List SL) : World → Prop := fun w => ∀ s ∈ S, RdF id s.2.2.1 (cellsP s.2.1) w ∧ DatF s.2.1 w
theorem StF.all {own : Nat → Prop} {w : World} : ∀ {S : List SL}, (∀ s ∈ S, Has own w (RdF id s.2.2.1 (cellsP s.2.1)) ∧ Has own w (DatF s.2.1)) → Has own w (StF S)
  | [], _ => Has.pure fun _ p hp => by simp at hp
  | p :: l, h => (((h p List.mem_cons_self).1.and (h p List.mem_cons_self).2).and (StF.all fun q hq => h q (List.mem_cons_of_mem _ hq))).imp fun w h q hq => by
    rcases List.mem_cons.1 hq with rfl | hq
    · exact h.1
    · exact h.2 q hq
theorem StF.one {own : Nat → Prop} {w : World} {S : List SL} (h : Has own w (StF S)) {s : SL} (hs : s ∈ S) : Has own w (RdF id s.2.2.1 (cellsP s.2.1)) ∧ Has own w (DatF s.2.1) := ⟨h.imp fun _ k => (k s hs).1, h.imp fun _ k => (k s hs).2⟩
theorem DatF.app {own : Nat → Prop} {w : World} {l m : List P} (h : Has own w (DatF l)) (k : Has own w (DatF m)) : Has own w (DatF (l ++ m)) := (h.and k).imp fun w h q hq => by
  rcases List.mem_append.1 hq with hq | hq
  · exact h.1 q hq
  · exact h.2 q hq
theorem DatW.app {l m : List P} (h : DatW l) (k : DatW m) : DatW (l ++ m) := fun q hq => by
  rcases List.mem_append.1 hq with hq | hq
  · exact h q hq
  · exact k q hq
def mkI (x : Dat) : Itm := ⟨dg x, x⟩
/-- The chunks of a list, and the items of stores. -/
def allI (n : Nat) (l : Dat) (S : List SL) : List Itm := (parts n l).map mkI ++ (S.map fun s => ims s.2.1).flatten
theorem allI_len (n : Nat) (l : Dat) (S : List SL) : (allI n l S).length ≤ l.length + n + ((S.map fun s => ims s.2.1).flatten).length := by
  unfold allI
  rw [List.length_append, List.length_map, parts_num]
  have := Nat.div_le_self (l.length + n - 1) n
  omega
theorem allI_x {n : Nat} {l : Dat} {S : List SL} (hn : 1 ≤ n ∧ n ≤ 4096) {q : Nat} (hq : 4096 ≤ q) (h : ∀ s ∈ S, ∀ p ∈ s.2.1, p.1.x.length ≤ q) : ∀ i ∈ allI n l S, i.x.length ≤ q := by
  intro i hi
  rcases List.mem_append.1 hi with hi | hi
  · obtain ⟨x, hx, rfl⟩ := List.mem_map.1 hi
    exact Nat.le_trans (ch_len (parts_ch hn.1 hn.2 x hx)) hq
  · obtain ⟨m, hm, hi⟩ := List.mem_flatten.1 hi
    obtain ⟨s, hs, rfl⟩ := List.mem_map.1 hm
    obtain ⟨p, hp, rfl⟩ := List.mem_map.1 hi
    exact h s hs p hp
end D29
section
variable (l : Dat) (hl8 : W8 l) (hlb : By8 l) (al : Option Addr) (cl nl : Nat) (hnl : l.length = nl) (hnl4 : nl ≤ 4096) (hcl : nl ≤ cl) (n : Nat) (hn : 1 ≤ n ∧ n ≤ 4096) (S : List SL) (ns : Nat) (hns : S.length = ns) (hS2 : ns ≤ 2) (hS : ∀ s ∈ S, DatW s.2.1 ∧ s.2.1.length ≤ 4096) (asl : Option Addr) (cs : Nat)
  (own : Nat → Prop) (W : World) (hl : ∀ b, own b → b < W.heap.size) (hx : Has own W (RdF (Value.int .u8) al l.flatten)) (hs : Has own W (RdF id asl (S.map stC).flatten)) (hs2 : Has own W (StF S))
include hl8 hlb hnl hnl4 hcl hn hns hS2 hS hl hx hs hs2
set_option maxRecDepth 20000 in
set_option maxHeartbeats 8000000 in
theorem lchunks_c : Calls Try.prog 33 ⟨[.slice al nl cl, .int .i64 n, .slice asl ns cs]⟩ W (Ret W fun v w' => ∃ (a : Option Addr) (c : Nat), v = .slice a (allI n l S).length c ∧ ItR own (allI n l S) a c w') := by
  have hM := ((((Mm.start hl).known hs2).known hs).known hx).nilRow 57 2
  subst hnl hns
  refine f_start Try.func33 rfl Try.ntmps33 rfl rfl ?_; intro a hF
  (repeat (first | (with_reducible refine w_seq ?_) | (with_reducible refine c_region ?_) | (with_reducible refine s_nil ?_) | (with_reducible refine q_then_n ?_) | ((with_reducible apply s_pure hF); exact rfl; exact rfl; exact rfl; (first | exact trivial | omega | exact ⟨Int.natCast_nonneg _, Int.ofNat_lt.2 (by assumption)⟩ | decide); clear hF a; intro a hF) | (with_reducible refine w_block ?_)))
  have hN : (l.length + n - 1) / n ≤ 10000 := Nat.le_trans (Nat.div_le_self _ _) (by omega)
  refine c_loop (m := (l.length + n - 1) / n) (fun m a w' => ∃ (k : Nat) (qs : List P) (rv : Value), m + k = (l.length + n - 1) / n ∧ qs.length = k ∧ ims qs = ((List.range k).map (D29.part n l)).map mkI ∧ DatW qs ∧
    Fr 47 [] [(8, .int .i64 (k * n : Nat)), (7, rv), (0, .slice al l.length cl), (1, .int .i64 n), (2, .slice asl S.length cs)] a ∧
    Mm own W [] [⟨57, 2, rv, k, cellsP qs⟩] [DatF qs, RdF (Value.int .u8) al l.flatten, RdF id asl (S.map stC).flatten, StF S] w')
    ⟨0, [], _, by omega, rfl, rfl, fun p hp => by simp at hp, hF.sub (by repeat (first | exact Sub.nil | refine Sub.cons rfl (by first | with_reducible rfl | (refine congrArg (Value.int _) ?_; omega) | (exact (by rw [Nat.zero_mul]; rfl)) | exact rfl) ?_)), hM.addFact (f := DatF []) (Has.pure fun _ p hp => by simp at hp)⟩ ?_
  clear hF hM a
  rintro m a w' ⟨k, qs, rv, hm, hqs, hqi, hqw, hF, hM⟩
  have hlt2 := parts_lt (l := l) hn.1 (k := k)
  have hsucc : (k + 1) * n = k * n + n := Nat.succ_mul _ _
  by_cases hlt : k < (l.length + n - 1) / n
  · have hql := hlt2.1 hlt
    have hpl : (D29.part n l k).length = min n (l.length - k * n) := part_len
    have f2 := take_rd (drop_rd hl8 (hM.facts (RdF (Value.int .u8) al l.flatten) (by (repeat (first | with_reducible exact List.mem_cons_self | refine List.mem_cons_of_mem _ ?_)))) (k * n) cl hcl) n
    have hp8 : W8 (D29.part n l k) := fun s hs => hl8 s (part_sub s hs)
    have hpb : By8 (D29.part n l k) := fun s hs => hlb s (part_sub s hs)
    have hrk : ims (qs ++ [(mkI (D29.part n l k), sadr al (k * n) cl 8, cl - k * n)]) = ((List.range (k + 1)).map (D29.part n l)).map mkI := by
      rw [ims_app, hqi, List.range_succ, List.map_append, List.map_append]
      rfl
    obtain ⟨q, hq⟩ : ∃ q, k * n = q := ⟨_, rfl⟩
    change Has _ _ (RdF _ _ (D29.part n l k).flatten) at f2
    rw [hq] at hF hql hpl f2 hrk hsucc
    generalize D29.part n l k = x at *
    obtain ⟨e, he⟩ : ∃ e, x.length = e := ⟨_, rfl⟩
    have hmin : min (l.length : Int) ((q : Int) + (n : Int)) = ((q + e : Nat) : Int) := by omega
    have hs1 : Value.slice (sadr al (q : Int).toNat cl 8) ((min (l.length : Int) ((q : Int) + (n : Int))).toNat - (q : Int).toNat) (cl - (q : Int).toNat) = .slice (sadr al q cl 8) e (cl - q) := by
      rw [hmin, Int.toNat_natCast, Int.toNat_natCast, Nat.add_sub_cancel_left]
    obtain ⟨a2, ha2⟩ : ∃ a2, sadr al q cl 8 = a2 := ⟨_, rfl⟩
    rw [ha2] at hs1 f2 hrk
    replace hM := hM.addFact f2
    (repeat' (first | (with_reducible refine w_seq ?_) | (with_reducible refine c_region ?_) | (with_reducible refine s_nil ?_) | (with_reducible refine q_then_n ?_) | ((with_reducible apply s_pure hF); exact rfl; exact rfl; exact rfl; (first | exact trivial | omega | exact ⟨Int.natCast_nonneg _, Int.ofNat_lt.2 (by assumption)⟩ | decide); clear hF a; intro a hF) | (with_reducible refine w_skip ?_) | (with_reducible refine w_block ?_) | ((with_reducible apply c_dec hF); exact rfl; all_goals intro hc; all_goals (try (exfalso; omega)))))
    rw [hs1] at hF
    (((with_reducible apply s_call (f := 26) hF hM); exact rfl; exact rfl; exact rfl; exact rfl; exact rfl; exact (Sectors4_c x hp8 a2 (cl - q) e he (by omega) _ _ hM.lt (hM.facts (RdF (Value.int .u8) a2 x.flatten) (by (repeat (first | with_reducible exact List.mem_cons_self | refine List.mem_cons_of_mem _ ?_))))); clear hF hM a; rintro v w a rfl - hM hF))
    (repeat' (first | (with_reducible refine c_region ?_) | (with_reducible refine s_nil ?_) | (with_reducible refine q_then_n ?_) | ((with_reducible apply s_pure hF); exact rfl; exact rfl; exact rfl; (first | exact trivial | omega | exact ⟨Int.natCast_nonneg _, Int.ofNat_lt.2 (by assumption)⟩ | decide); clear hF a; intro a hF) | ((with_reducible apply s_lit hF hM); exact rfl; exact rfl; exact rfl; exact rfl; clear hF hM a; intro bl w a hM hF) | ((with_reducible apply s_app hF hM); exact rfl; exact rfl; exact rfl; exact rfl; (repeat (first | exact Kth.z | apply Kth.s)); exact rfl; exact rfl; exact rfl; exact rfl; omega; clear hF hM a; intro g cap w a hM hF; dsimp only [List.set] at hM) | (with_reducible refine q_blk_n ?_)))
    refine ⟨m - 1, by omega, k + 1, qs ++ [(mkI x, a2, cl - q)], .slice (some ⟨g, 0, none⟩) (k + 1) cap, by omega, by simp; omega, hrk, hqw.snoc ⟨hp8, by show x.length ≤ cl - q; omega, hpb⟩, hF.sub (by repeat (first | exact Sub.nil | refine Sub.cons rfl (by first | with_reducible rfl | (refine congrArg (Value.int _) ?_; omega) | (exact (by rw [hsucc]; exact congrArg _ (by omega))) | exact rfl) ?_)), ?_⟩
    have hce : cellsP (qs ++ [(mkI x, a2, cl - q)]) = cellsP qs ++ [.int .u64 (dg x), .slice a2 e (cl - q)] := by rw [cellsP_app, ← he]; rfl
    rw [hce]
    exact (hM.addFact (DatF.snoc (p := (mkI x, a2, cl - q)) (hM.facts (DatF qs) (by (repeat (first | with_reducible exact List.mem_cons_self | refine List.mem_cons_of_mem _ ?_)))) (hM.facts (RdF (Value.int .u8) a2 x.flatten) (by (repeat (first | with_reducible exact List.mem_cons_self | refine List.mem_cons_of_mem _ ?_)))))).sub (.refl _) (.refl _) (fun f hf => by simp only [List.mem_cons, List.not_mem_nil, or_false] at hf ⊢; rcases hf with h | h | h | h <;> simp [h])
  · obtain rfl : k = (l.length + n - 1) / n := by omega
    have hql : ¬ (l.length + n - 1) / n * n < l.length := fun h => hlt (hlt2.2 h)
    have hqi2 : ims qs = (parts n l).map mkI := hqi
    have hqn : qs.length ≤ 10000 := by omega
    generalize hNN : (l.length + n - 1) / n = N at *
    generalize N * n = q at *
    subst hqs
    (repeat' (first | (with_reducible refine w_seq ?_) | (with_reducible refine c_region ?_) | (with_reducible refine s_nil ?_) | (with_reducible refine q_then_n ?_) | ((with_reducible apply s_pure hF); exact rfl; exact rfl; exact rfl; (first | exact trivial | omega | exact ⟨Int.natCast_nonneg _, Int.ofNat_lt.2 (by assumption)⟩ | decide); clear hF a; intro a hF) | (with_reducible refine w_block ?_) | (with_reducible refine w_exit ?_) | (with_reducible refine q_then_x ?_) | (with_reducible refine q_blk_x ?_) | ((with_reducible apply c_dec hF); exact rfl; all_goals intro hc; all_goals (try (exfalso; omega)))))
    refine c_loop (m := S.length) (fun m a w' => ∃ (j : Nat) (rs : List P) (rv : Value) (nr : Nat), m + j = S.length ∧ rs.length = nr ∧ nr ≤ 10000 + j * 4096 ∧ ims rs = (parts n l).map mkI ++ ((S.take j).map fun s => ims s.2.1).flatten ∧ DatW rs ∧
      Fr 47 [] [(37, .int .i64 j), (36, .int .i64 S.length), (35, .slice asl S.length cs), (7, rv)] a ∧
      Mm own W [] [⟨57, 2, rv, nr, cellsP rs⟩] [DatF rs, RdF id asl (S.map stC).flatten, StF S] w')
      ⟨0, qs, rv, qs.length, by omega, rfl, by omega, by rw [hqi2]; simp, hqw, hF.sub (by repeat (first | exact Sub.nil | refine Sub.cons rfl (by first | with_reducible rfl | (refine congrArg (Value.int _) ?_; omega) | exact rfl) ?_)), hM.sub (.refl _) (.refl _) (fun f hf => by simp only [List.mem_cons, List.not_mem_nil, or_false] at hf ⊢; rcases hf with h | h | h <;> simp [h])⟩ ?_
    clear hF hM a hm
    rintro m a w' ⟨j, rs, rv, nr, hm, hrs, hnr, hri, hrw, hF, hM⟩
    by_cases hj : j < S.length
    · obtain ⟨s, hss⟩ := get_of_lt hj
      have hsm := List.mem_of_getElem? hss
      obtain ⟨hsw, hsl⟩ := hS s hsm
      obtain ⟨g1, g2⟩ := StF.one (hM.facts (StF S) (by (repeat (first | with_reducible exact List.mem_cons_self | refine List.mem_cons_of_mem _ ?_)))) hsm
      have hpe : (S.map stC)[j]? = some [.int .i64 s.1, .slice s.2.2.1 s.2.1.length s.2.2.2] := by rw [List.getElem?_map, hss]; rfl
      have hw := stC_len S
      obtain ⟨ad, rfl⟩ : ∃ ad, asl = some ad := rd_some hM (enc := id) (a := asl) (xs := (S.map stC).flatten) (by (repeat (first | with_reducible exact List.mem_cons_self | refine List.mem_cons_of_mem _ ?_))) (flat_get (q := 0) hw hpe rfl)
      obtain ⟨cq, qq, aq, kq⟩ := s
      dsimp only at hsw hsl g1 g2 hpe
      obtain ⟨q, hqq⟩ : ∃ q, qq.length = q := ⟨_, rfl⟩
      have hcl : (cells1 qq).length = q * 2 := by rw [← List.length_map (f := Subtype.val), cells1_val, cellsP_len, hqq]
      rw [hqq] at hpe
      have hj2 : j < 2 := by omega
      replace hM := (hM.addFact g2).addFact (rdC1 g1)
      (repeat' (first | (with_reducible refine w_seq ?_) | (with_reducible refine c_region ?_) | (with_reducible refine s_nil ?_) | ((with_reducible apply s_loadE hF hM); exact rfl; exact rfl; (repeat (first | exact List.mem_cons_self | refine List.mem_cons_of_mem _ ?_)); exact rfl; exact rfl; (first | with_reducible assumption | (simp only [Int.toNat_natCast]; with_reducible assumption)); (with_reducible assumption); clear hF a; intro a hF) | ((with_reducible apply s_appN hF hM); exact rfl; exact rfl; (repeat (first | exact List.mem_cons_self | refine List.mem_cons_of_mem _ ?_)); exact rfl; exact rfl; (with_reducible assumption); (repeat (first | exact Kth.z | apply Kth.s)); (exact fun y => y.2); exact rfl; omega; clear hF hM a; intro g cap w a hM hF; dsimp only [List.set] at hM) | (with_reducible refine q_then_n ?_) | ((with_reducible apply s_pure hF); exact rfl; exact rfl; exact rfl; (first | exact trivial | omega | exact ⟨Int.natCast_nonneg _, Int.ofNat_lt.2 (by assumption)⟩ | decide); clear hF a; intro a hF) | ((with_reducible apply s_load hF hM); exact rfl; exact rfl; (repeat (first | exact List.mem_cons_self | refine List.mem_cons_of_mem _ ?_)); exact rfl; exact rfl; clear hF a; intro a hF) | ((with_reducible apply s_store hF hM); exact rfl; exact rfl; exact rfl; exact rfl; (repeat (first | exact Upd.z | apply Upd.s)); exact rfl; exact rfl; exact rfl; clear hM; intro w hM) | ((with_reducible apply s_alloc hF hM); exact rfl; exact rfl; exact rfl; clear hF hM a; intro b w a hM hF) | (with_reducible refine w_skip ?_) | (with_reducible refine w_block ?_) | (with_reducible refine q_blk_n ?_) | ((with_reducible apply c_dec hF); exact rfl; all_goals intro hc; all_goals (try (exfalso; omega)))))
      refine ⟨m - 1, by omega, j + 1, rs ++ qq, .slice g (nr + q) cap, nr + q, by omega, by rw [List.length_append]; omega, by omega, ?_, hrw.app hsw, hF.sub (by repeat (first | exact Sub.nil | refine Sub.cons rfl (by first | with_reducible rfl | (refine congrArg (Value.int _) ?_; omega) | exact rfl) ?_)), ?_⟩
      · rw [ims_app, hri, take_snoc hss, List.map_append, List.flatten_append, ← List.append_assoc]
        simp
      · rw [cellsP_app]
        exact (((hM.addFact (DatF.app (hM.facts (DatF rs) (by (repeat (first | with_reducible exact List.mem_cons_self | refine List.mem_cons_of_mem _ ?_)))) (hM.facts (DatF qq) (by (repeat (first | with_reducible exact List.mem_cons_self | refine List.mem_cons_of_mem _ ?_)))))).sub (.cons _ .slnil) (.refl _) (fun f hf => by simp only [List.mem_cons, List.not_mem_nil, or_false] at hf ⊢; rcases hf with h | h | h <;> simp [h]))).rowsEq (by rw [cells1_val])
    · rw [List.take_of_length_le (by omega)] at hri
      have hal : (allI n l S).length = nr := by
        rw [show allI n l S = ims rs from hri.symm, ims_len, hrs]
      obtain ⟨av, cv, rfl, hcv, -⟩ := OffR.shape hM (k := 0) rfl (OffR.plain hM List.mem_cons_self)
      replace hM := Mm.freezeN (enc := id) (xs := cellsP rs) (by rw [List.map_id]; exact hM)
      (repeat' (first | (with_reducible refine w_seq ?_) | (with_reducible refine c_region ?_) | (with_reducible refine s_nil ?_) | (with_reducible refine q_then_n ?_) | ((with_reducible apply s_pure hF); exact rfl; exact rfl; exact rfl; (first | exact trivial | omega | exact ⟨Int.natCast_nonneg _, Int.ofNat_lt.2 (by assumption)⟩ | decide); clear hF a; intro a hF) | (with_reducible refine w_exit ?_) | (with_reducible refine w_ret ?_) | (with_reducible refine q_then_x ?_) | (with_reducible refine q_blk_x ?_) | ((with_reducible apply c_dec hF); exact rfl; all_goals intro hc; all_goals (try (exfalso; omega)))))
      (apply f_ret Try.results33 hF hM; (repeat (first | exact RL.nil | (apply RL.tmp; exact rfl) | (apply RL.cell; exact rfl; (repeat (first | exact List.mem_cons_self | refine List.mem_cons_of_mem _ ?_)); exact rfl))); refine Ret.mk hM.since ?_; dsimp only [resV])
      exact ⟨av, cv, by rw [hal], itR_mk hM hri hrw (by (repeat (first | with_reducible exact List.mem_cons_self | refine List.mem_cons_of_mem _ ?_))) (by (repeat (first | with_reducible exact List.mem_cons_self | refine List.mem_cons_of_mem _ ?_))) (by rw [hal]; exact hcv)⟩
end
section
variable (ps : List P) (a0 : Option Addr) (c0 n : Nat) (hn : ps.length = n) (hlen : n ≤ 100000) (hDW : DatW ps) (hpx : ∀ p ∈ ps, p.1.x.length ≤ 100000) (hc0 : n ≤ c0)
  (own : Nat → Prop) (W : World) (hl : ∀ b, own b → b < W.heap.size) (h1 : Has own W (RdF id a0 (cellsP ps))) (h2 : Has own W (DatF ps))
include hn hlen hDW hpx hc0 hl h1 h2
set_option maxRecDepth 20000 in
set_option maxHeartbeats 4000000 in
theorem collide_c : Calls Try.prog 32 ⟨[.slice a0 n c0]⟩ W (Ret W fun v _ => ∃ f : Bool, v = .bool f ∧ (f = false → ∀ i ∈ ims ps, ∀ j ∈ ims ps, i.d = j.d → i.x = j.x)) := by
  have hM := ((Mm.start hl).known h2).known h1
  subst hn
  have hw := itC_len ps
  refine f_start Try.func32 rfl Try.ntmps32 rfl rfl ?_; intro a hF
  (repeat (first | (with_reducible refine w_seq ?_) | (with_reducible refine c_region ?_) | (with_reducible refine s_nil ?_) | (with_reducible refine q_then_n ?_) | ((with_reducible apply s_pure hF); exact rfl; exact rfl; exact rfl; (first | exact trivial | omega | exact ⟨Int.natCast_nonneg _, Int.ofNat_lt.2 (by assumption)⟩ | decide); clear hF a; intro a hF) | (with_reducible refine w_block ?_)))
  refine c_loop (m := ps.length) (fun m a w' => ∃ k : Nat, m + k = ps.length ∧ (∀ i ∈ ims (ps.take k), ∀ j ∈ ims (ps.take k), i.d = j.d → i.x = j.x) ∧
    Fr 37 [] [(9, .int .i64 k), (8, .int .i64 ps.length), (7, .slice a0 ps.length c0), (0, .slice a0 ps.length c0)] a ∧
    Mm own W [] [] [RdF id a0 (ps.map itC).flatten, DatF ps] w') ⟨0, by omega, by simp [ims], hF.sub (by repeat (first | exact Sub.nil | refine Sub.cons rfl (by first | with_reducible rfl | (refine congrArg (Value.int _) ?_; omega) | exact rfl) ?_)), hM⟩ ?_
  clear hF hM a
  rintro m a w' ⟨k, hm, hk0, hF, hM⟩
  by_cases hk : k < ps.length
  · obtain ⟨p, hp⟩ := get_of_lt hk
    have hpm := List.mem_of_getElem? hp
    have hp8 := (hDW p hpm).1
    have hp4 := hpx p hpm
    have hpr := dat_one (hM.facts (DatF ps) (by (repeat (first | with_reducible exact List.mem_cons_self | refine List.mem_cons_of_mem _ ?_)))) hpm
    have hpe : (ps.map itC)[k]? = some [.int .u64 p.1.d, .slice p.2.1 p.1.x.length p.2.2] := by rw [List.getElem?_map, hp]; rfl
    obtain ⟨ad, rfl⟩ : ∃ ad, a0 = some ad := rd_some hM (enc := id) (a := a0) (xs := (ps.map itC).flatten) (by (repeat (first | with_reducible exact List.mem_cons_self | refine List.mem_cons_of_mem _ ?_))) (flat_get (q := 0) hw hpe rfl)
    have hsl : Value.slice (sadr (some ad) (Int.toNat 0) c0 2) ((k : Int).toNat - Int.toNat 0) (c0 - Int.toNat 0) = .slice (some ad) k c0 := by
      rw [show Int.toNat 0 = 0 from rfl, sadr_zero]
      rfl
    replace hM := hM.addFact hpr
    obtain ⟨⟨dp, xp⟩, ap, cp⟩ := p
    dsimp only at hp8 hp4 hpr hpe hM
    (repeat' (first | (with_reducible refine w_seq ?_) | (with_reducible refine c_region ?_) | (with_reducible refine s_nil ?_) | ((with_reducible apply s_loadE hF hM); exact rfl; exact rfl; (repeat (first | exact List.mem_cons_self | refine List.mem_cons_of_mem _ ?_)); exact rfl; exact rfl; (first | with_reducible assumption | (simp only [Int.toNat_natCast]; with_reducible assumption)); (with_reducible assumption); clear hF a; intro a hF) | (with_reducible refine q_then_n ?_) | ((with_reducible apply s_pure hF); exact rfl; exact rfl; exact rfl; (first | exact trivial | omega | exact ⟨Int.natCast_nonneg _, Int.ofNat_lt.2 (by assumption)⟩ | decide); clear hF a; intro a hF) | ((with_reducible apply s_store hF hM); exact rfl; exact rfl; exact rfl; exact rfl; (repeat (first | exact Upd.z | apply Upd.s)); exact rfl; exact rfl; exact rfl; clear hM; intro w hM) | ((with_reducible apply s_alloc hF hM); exact rfl; exact rfl; exact rfl; clear hF hM a; intro b w a hM hF) | (with_reducible refine w_skip ?_) | (with_reducible refine w_block ?_) | ((with_reducible apply c_dec hF); exact rfl; all_goals intro hc; all_goals (try (exfalso; omega)))))
    generalize b = b4 at *
    rw [hsl] at hF
    refine c_loop (m := k) (fun mj a w' => ∃ j : Nat, mj + j = k ∧ (∀ i ∈ ims (ps.take j), i.d = dp → i.x = xp) ∧
      Fr 37 [] [(18, .int .i64 j), (17, .int .i64 k), (16, .slice (some ad) k c0), (4, .pointer (some ⟨b4, 0, none⟩)), (9, .int .i64 k), (8, .int .i64 ps.length), (7, .slice (some ad) ps.length c0), (0, .slice (some ad) ps.length c0)] a ∧
      Mm own W [⟨b4, ⟨[.int .u64 dp, .slice ap xp.length cp]⟩, 57⟩] [] [RdF (Value.int .u8) ap xp.flatten, RdF id (some ad) (ps.map itC).flatten, DatF ps] w') ⟨0, by omega, by simp [ims], hF.sub (by repeat (first | exact Sub.nil | refine Sub.cons rfl (by first | with_reducible rfl | (refine congrArg (Value.int _) ?_; omega) | exact rfl) ?_)), hM⟩ ?_
    clear hF hM a
    rintro mj a w' ⟨j, hmj, hj0, hF, hM⟩
    by_cases hj : j < k
    · obtain ⟨q, hq⟩ := get_of_lt (l := ps) (i := j) (by omega)
      have hqm := List.mem_of_getElem? hq
      have hq8 := (hDW q hqm).1
      have hq4 := hpx q hqm
      have hqr := dat_one (hM.facts (DatF ps) (by (repeat (first | with_reducible exact List.mem_cons_self | refine List.mem_cons_of_mem _ ?_)))) hqm
      have hqe : (ps.map itC)[j]? = some [.int .u64 q.1.d, .slice q.2.1 q.1.x.length q.2.2] := by rw [List.getElem?_map, hq]; rfl
      have hnx : (q.1.d = dp → q.1.x = xp) → ∀ i ∈ ims (ps.take (j + 1)), i.d = dp → i.x = xp := fun h i hi => by
        rw [take_snoc hq, ims_app] at hi
        rcases List.mem_append.1 hi with hi | hi
        · exact hj0 i hi
        · rw [show i = q.1 from List.mem_singleton.1 hi]; exact h
      obtain ⟨⟨dq, xq⟩, aq, cq⟩ := q
      dsimp only at hq8 hq4 hqr hqe hnx
      replace hM := hM.addFact hqr
      by_cases hd : dp = dq
      · by_cases hx : xp = xq
        · (repeat' (first | (with_reducible refine w_seq ?_) | (with_reducible refine c_region ?_) | (with_reducible refine s_nil ?_) | ((with_reducible apply s_call (f := 36) hF hM); exact rfl; exact rfl; exact rfl; exact rfl; exact rfl; exact (SameS_c xp xq hp8 hq8 ap aq _ _ cp cq rfl rfl (by omega) _ _ hM.lt (hM.facts (RdF (Value.int .u8) ap xp.flatten) (by (repeat (first | with_reducible exact List.mem_cons_self | refine List.mem_cons_of_mem _ ?_)))) (hM.facts (RdF (Value.int .u8) aq xq.flatten) (by (repeat (first | with_reducible exact List.mem_cons_self | refine List.mem_cons_of_mem _ ?_))))); clear hF hM a; rintro v w a rfl - hM hF; rw [decide_eq_true hx] at hF) | ((with_reducible apply s_loadE hF hM); exact rfl; exact rfl; (repeat (first | exact List.mem_cons_self | refine List.mem_cons_of_mem _ ?_)); exact rfl; exact rfl; (first | with_reducible assumption | (simp only [Int.toNat_natCast]; with_reducible assumption)); (with_reducible assumption); clear hF a; intro a hF) | (with_reducible refine q_then_n ?_) | ((with_reducible apply s_pure hF); exact rfl; exact rfl; exact rfl; (first | exact trivial | omega | exact ⟨Int.natCast_nonneg _, Int.ofNat_lt.2 (by assumption)⟩ | decide); clear hF a; intro a hF) | ((with_reducible apply s_load hF hM); exact rfl; exact rfl; (repeat (first | exact List.mem_cons_self | refine List.mem_cons_of_mem _ ?_)); exact rfl; exact rfl; clear hF a; intro a hF) | ((with_reducible apply s_store hF hM); exact rfl; exact rfl; exact rfl; exact rfl; (repeat (first | exact Upd.z | apply Upd.s)); exact rfl; exact rfl; exact rfl; clear hM; intro w hM) | ((with_reducible apply s_alloc hF hM); exact rfl; exact rfl; exact rfl; clear hF hM a; intro b w a hM hF) | (with_reducible refine w_skip ?_) | (with_reducible refine w_block ?_) | (with_reducible refine q_blk_n ?_) | ((with_reducible apply c_false2 hF); exact rfl; (first | with_reducible rfl | (refine congrArg Value.bool ?_; focus (simp; done)))) | ((fail_if_success ((with_reducible refine g_known true hF ?_ ?_); focus exact rfl)); (fail_if_success ((with_reducible refine g_known false hF ?_ ?_); focus exact rfl)); (with_reducible apply g_dec hF); exact rfl; exact rfl; all_goals (clear hF; intro hc hF); all_goals (try (exfalso; omega))) | ((with_reducible apply c_dec hF); exact rfl; all_goals intro hc; all_goals (try (exfalso; omega)))))
          exact ⟨mj - 1, by omega, j + 1, by omega, hnx (fun _ => hx.symm), hF.sub (by repeat (first | exact Sub.nil | refine Sub.cons rfl (by first | with_reducible rfl | (refine congrArg (Value.int _) ?_; omega) | exact rfl) ?_)), hM.sub (.cons _ (.refl _)) (.refl _) (fun f hf => List.mem_cons_of_mem _ hf)⟩
        · (repeat' (first | (with_reducible refine w_seq ?_) | (with_reducible refine c_region ?_) | (with_reducible refine s_nil ?_) | ((with_reducible apply s_call (f := 36) hF hM); exact rfl; exact rfl; exact rfl; exact rfl; exact rfl; exact (SameS_c xp xq hp8 hq8 ap aq _ _ cp cq rfl rfl (by omega) _ _ hM.lt (hM.facts (RdF (Value.int .u8) ap xp.flatten) (by (repeat (first | with_reducible exact List.mem_cons_self | refine List.mem_cons_of_mem _ ?_)))) (hM.facts (RdF (Value.int .u8) aq xq.flatten) (by (repeat (first | with_reducible exact List.mem_cons_self | refine List.mem_cons_of_mem _ ?_))))); clear hF hM a; rintro v w a rfl - hM hF; rw [decide_eq_false hx] at hF) | ((with_reducible apply s_loadE hF hM); exact rfl; exact rfl; (repeat (first | exact List.mem_cons_self | refine List.mem_cons_of_mem _ ?_)); exact rfl; exact rfl; (first | with_reducible assumption | (simp only [Int.toNat_natCast]; with_reducible assumption)); (with_reducible assumption); clear hF a; intro a hF) | (with_reducible refine q_then_n ?_) | ((with_reducible apply s_pure hF); exact rfl; exact rfl; exact rfl; (first | exact trivial | omega | exact ⟨Int.natCast_nonneg _, Int.ofNat_lt.2 (by assumption)⟩ | decide); clear hF a; intro a hF) | ((with_reducible apply s_load hF hM); exact rfl; exact rfl; (repeat (first | exact List.mem_cons_self | refine List.mem_cons_of_mem _ ?_)); exact rfl; exact rfl; clear hF a; intro a hF) | ((with_reducible apply s_store hF hM); exact rfl; exact rfl; exact rfl; exact rfl; (repeat (first | exact Upd.z | apply Upd.s)); exact rfl; exact rfl; exact rfl; clear hM; intro w hM) | ((with_reducible apply s_alloc hF hM); exact rfl; exact rfl; exact rfl; clear hF hM a; intro b w a hM hF) | (with_reducible refine w_skip ?_) | (with_reducible refine w_block ?_) | (with_reducible refine w_ret ?_) | (with_reducible refine q_then_r ?_) | (with_reducible refine q_blk_r ?_) | ((with_reducible apply c_true2 hF); exact rfl; (first | with_reducible rfl | (refine congrArg Value.bool ?_; focus (simp; done)))) | ((fail_if_success ((with_reducible refine g_known true hF ?_ ?_); focus exact rfl)); (fail_if_success ((with_reducible refine g_known false hF ?_ ?_); focus exact rfl)); (with_reducible apply g_dec hF); exact rfl; exact rfl; all_goals (clear hF; intro hc hF); all_goals (try (exfalso; omega))) | ((with_reducible apply c_dec hF); exact rfl; all_goals intro hc; all_goals (try (exfalso; omega)))))
          (apply f_ret Try.results32 hF hM; (repeat (first | exact RL.nil | (apply RL.tmp; exact rfl) | (apply RL.cell; exact rfl; (repeat (first | exact List.mem_cons_self | refine List.mem_cons_of_mem _ ?_)); exact rfl))); refine Ret.mk hM.since ?_; dsimp only [resV])
          exact ⟨_, rfl, fun h => by cases h⟩
      · (repeat' (first | (with_reducible refine w_seq ?_) | (with_reducible refine c_region ?_) | (with_reducible refine s_nil ?_) | ((with_reducible apply s_loadE hF hM); exact rfl; exact rfl; (repeat (first | exact List.mem_cons_self | refine List.mem_cons_of_mem _ ?_)); exact rfl; exact rfl; (first | with_reducible assumption | (simp only [Int.toNat_natCast]; with_reducible assumption)); (with_reducible assumption); clear hF a; intro a hF) | (with_reducible refine q_then_n ?_) | ((with_reducible apply s_pure hF); exact rfl; exact rfl; exact rfl; (first | exact trivial | omega | exact ⟨Int.natCast_nonneg _, Int.ofNat_lt.2 (by assumption)⟩ | decide); clear hF a; intro a hF) | ((with_reducible apply s_load hF hM); exact rfl; exact rfl; (repeat (first | exact List.mem_cons_self | refine List.mem_cons_of_mem _ ?_)); exact rfl; exact rfl; clear hF a; intro a hF) | ((with_reducible apply s_store hF hM); exact rfl; exact rfl; exact rfl; exact rfl; (repeat (first | exact Upd.z | apply Upd.s)); exact rfl; exact rfl; exact rfl; clear hM; intro w hM) | ((with_reducible apply s_alloc hF hM); exact rfl; exact rfl; exact rfl; clear hF hM a; intro b w a hM hF) | (with_reducible refine w_skip ?_) | (with_reducible refine w_block ?_) | (with_reducible refine q_blk_n ?_) | ((with_reducible apply c_false2 hF); exact rfl; (first | with_reducible rfl | (refine congrArg Value.bool ?_; focus (simp; done)))) | ((with_reducible apply s_skip hF); exact rfl; exact rfl; clear hF a; intro a hF) | ((fail_if_success ((with_reducible refine g_known true hF ?_ ?_); focus exact rfl)); (fail_if_success ((with_reducible refine g_known false hF ?_ ?_); focus exact rfl)); (with_reducible apply g_dec hF); exact rfl; exact rfl; all_goals (clear hF; intro hc hF); all_goals (try (exfalso; omega))) | ((with_reducible apply c_dec hF); exact rfl; all_goals intro hc; all_goals (try (exfalso; omega)))))
        exact ⟨mj - 1, by omega, j + 1, by omega, hnx (fun h => absurd h.symm hd), hF.sub (by repeat (first | exact Sub.nil | refine Sub.cons rfl (by first | with_reducible rfl | (refine congrArg (Value.int _) ?_; omega) | exact rfl) ?_)), hM.sub (.cons _ (.refl _)) (.refl _) (fun f hf => List.mem_cons_of_mem _ hf)⟩
    · obtain rfl : j = k := by omega
      (repeat' (first | (with_reducible refine w_seq ?_) | (with_reducible refine c_region ?_) | (with_reducible refine s_nil ?_) | (with_reducible refine q_then_n ?_) | ((with_reducible apply s_pure hF); exact rfl; exact rfl; exact rfl; (first | exact trivial | omega | exact ⟨Int.natCast_nonneg _, Int.ofNat_lt.2 (by assumption)⟩ | decide); clear hF a; intro a hF) | (with_reducible refine w_exit ?_) | (with_reducible refine q_then_x ?_) | (with_reducible refine q_blk_n ?_) | (with_reducible refine q_blk_x ?_) | ((with_reducible apply c_false2 hF); exact rfl; (first | with_reducible rfl | (refine congrArg Value.bool ?_; focus (simp; done))))))
      refine ⟨m - 1, by omega, j + 1, by omega, ?_, hF.sub (by repeat (first | exact Sub.nil | refine Sub.cons rfl (by first | with_reducible rfl | (refine congrArg (Value.int _) ?_; omega) | exact rfl) ?_)), hM.sub (.cons _ (.refl _)) (.refl _) (fun f hf => List.mem_cons_of_mem _ hf)⟩
      intro u hu v hv
      rw [take_snoc hp, ims_app] at hu hv
      rcases List.mem_append.1 hu with hu | hu <;> rcases List.mem_append.1 hv with hv | hv
      · exact hk0 u hu v hv
      · rw [show v = ⟨dp, xp⟩ from List.mem_singleton.1 hv]
        exact hj0 u hu
      · rw [show u = ⟨dp, xp⟩ from List.mem_singleton.1 hu]
        exact fun h => (hj0 v hv h.symm).symm
      · rw [show v = ⟨dp, xp⟩ from List.mem_singleton.1 hv, show u = ⟨dp, xp⟩ from List.mem_singleton.1 hu]
        exact fun _ => rfl
  · rw [List.take_of_length_le (by omega)] at hk0
    (repeat' (first | (with_reducible refine w_seq ?_) | (with_reducible refine c_region ?_) | (with_reducible refine s_nil ?_) | (with_reducible refine q_then_n ?_) | ((with_reducible apply s_pure hF); exact rfl; exact rfl; exact rfl; (first | exact trivial | omega | exact ⟨Int.natCast_nonneg _, Int.ofNat_lt.2 (by assumption)⟩ | decide); clear hF a; intro a hF) | (with_reducible refine w_exit ?_) | (with_reducible refine w_ret ?_) | (with_reducible refine q_then_x ?_) | (with_reducible refine q_blk_x ?_) | ((with_reducible apply c_dec hF); exact rfl; all_goals intro hc; all_goals (try (exfalso; omega)))))
    (apply f_ret Try.results32 hF hM; (repeat (first | exact RL.nil | (apply RL.tmp; exact rfl) | (apply RL.cell; exact rfl; (repeat (first | exact List.mem_cons_self | refine List.mem_cons_of_mem _ ?_)); exact rfl))); refine Ret.mk hM.since ?_; dsimp only [resV])
    exact ⟨_, rfl, fun _ => hk0⟩
end
end Go.Proofs.Ytonelgecjmpbgaa


/- Layer 29: the law of what is saved. -/
namespace Go.Proofs.Ytonelgecjmpbgaa
open Go.RowKit Go.Shelf D29
theorem saves1_c (x y : P) (hx8 : W8 x.1.x) (hy8 : W8 y.1.x) (hxl : x.1.x.length ≤ 100000) (b : Nat) (own : Nat → Prop) (W : World) (hl : ∀ b, own b → b < W.heap.size) (hb : Has own W (BxF b (itC x) 57)) (h1 : Has own W (RdF (Value.int .u8) x.2.1 x.1.x.flatten)) (h2 : Has own W (RdF (Value.int .u8) y.2.1 y.1.x.flatten)) :
    Calls Try.prog 35 ⟨[.agg ⟨itC y⟩, .pointer (some ⟨b, 0, none⟩)]⟩ W (Ret W fun v _ => v = .bool (decide (x.1.x = y.1.x))) := by
  have hM := (((Mm.start hl).known hb).known h1).known h2
  refine f_start Try.func35 rfl Try.ntmps35 rfl rfl ?_; intro a hF
  unfold itC at *
  (repeat (first | (with_reducible refine w_seq ?_) | (with_reducible refine c_region ?_) | (with_reducible refine s_nil ?_) | ((with_reducible apply s_call (f := 36) hF hM); exact rfl; exact rfl; exact rfl; exact rfl; exact rfl; exact (SameS_c x.1.x y.1.x hx8 hy8 x.2.1 y.2.1 _ _ x.2.2 y.2.2 rfl rfl (by omega) _ _ hM.lt (hM.facts (RdF (Value.int .u8) x.2.1 x.1.x.flatten) (by (repeat (first | exact List.mem_cons_self | refine List.mem_cons_of_mem _ ?_)))) (hM.facts (RdF (Value.int .u8) y.2.1 y.1.x.flatten) (by (repeat (first | exact List.mem_cons_self | refine List.mem_cons_of_mem _ ?_))))); clear hF hM a; rintro v w a rfl - hM hF) | (with_reducible refine q_then_n ?_) | ((with_reducible apply s_pure hF); exact rfl; exact rfl; exact rfl; (first | exact trivial | omega | exact ⟨Int.natCast_nonneg _, Int.ofNat_lt.2 (by assumption)⟩ | decide); clear hF a; intro a hF) | ((with_reducible apply s_load hF hM); exact rfl; exact rfl; (repeat (first | exact List.mem_cons_self | refine List.mem_cons_of_mem _ ?_)); exact rfl; exact rfl; clear hF a; intro a hF) | ((with_reducible apply s_loadK hF hM); exact rfl; exact rfl; (repeat (first | exact List.mem_cons_self | refine List.mem_cons_of_mem _ ?_)); exact rfl; exact rfl; clear hF a; intro a hF) | ((with_reducible apply s_box hF hM); exact rfl; exact rfl; exact rfl; exact rfl; clear hF hM a; intro b w a hM hF) | (with_reducible refine w_ret ?_)))
  (apply f_ret Try.results35 hF hM; (repeat (first | exact RL.nil | (apply RL.tmp; exact rfl) | (apply RL.cell; exact rfl; (repeat (first | exact List.mem_cons_self | refine List.mem_cons_of_mem _ ?_)); exact rfl))); refine Ret.mk hM.since ?_; dsimp only [resV])
theorem saves2_c (t : TP) (own : Nat → Prop) (W : World) (hl : ∀ b, own b → b < W.heap.size) : Calls Try.prog 38 ⟨.agg ⟨tkC t⟩ :: []⟩ W (Ret W fun v _ => v = .bool (!t.1.r)) := by
  have hM := Mm.start hl
  refine f_start Try.func38 rfl Try.ntmps38 rfl rfl ?_; intro a hF
  unfold tkC at *
  (repeat (first | (with_reducible refine w_seq ?_) | (with_reducible refine c_region ?_) | (with_reducible refine s_nil ?_) | (with_reducible refine q_then_n ?_) | ((with_reducible apply s_pure hF); exact rfl; exact rfl; exact rfl; (first | exact trivial | omega | exact ⟨Int.natCast_nonneg _, Int.ofNat_lt.2 (by assumption)⟩ | decide); clear hF a; intro a hF) | ((with_reducible apply s_load hF hM); exact rfl; exact rfl; (repeat (first | exact List.mem_cons_self | refine List.mem_cons_of_mem _ ?_)); exact rfl; exact rfl; clear hF a; intro a hF) | ((with_reducible apply s_box hF hM); exact rfl; exact rfl; exact rfl; exact rfl; clear hF hM a; intro b w a hM hF) | (with_reducible refine w_ret ?_)))
  (apply f_ret Try.results38 hF hM; (repeat (first | exact RL.nil | (apply RL.tmp; exact rfl) | (apply RL.cell; exact rfl; (repeat (first | exact List.mem_cons_self | refine List.mem_cons_of_mem _ ?_)); exact rfl))); refine Ret.mk hM.since ?_; dsimp only [resV])
theorem saves3_c (x y : P) (hx8 : W8 x.1.x) (hy8 : W8 y.1.x) (hxl : x.1.x.length ≤ 100000) (own : Nat → Prop) (W : World) (hl : ∀ b, own b → b < W.heap.size) (h1 : Has own W (RdF (Value.int .u8) x.2.1 x.1.x.flatten)) (h2 : Has own W (RdF (Value.int .u8) y.2.1 y.1.x.flatten)) :
    Calls Try.prog 40 ⟨[.agg ⟨[.int .u64 x.1.d, .slice x.2.1 x.1.x.length x.2.2]⟩, .agg ⟨[.int .u64 y.1.d, .slice y.2.1 y.1.x.length y.2.2]⟩]⟩ W (Ret W fun v _ => v = .bool (decide (x.1.x = y.1.x))) := by
  have hM := ((Mm.start hl).known h1).known h2
  refine f_start Try.func40 rfl Try.ntmps40 rfl rfl ?_; intro a hF
  (repeat (first | (with_reducible refine w_seq ?_) | (with_reducible refine c_region ?_) | (with_reducible refine s_nil ?_) | ((with_reducible apply s_call (f := 36) hF hM); exact rfl; exact rfl; exact rfl; exact rfl; exact rfl; exact (SameS_c x.1.x y.1.x hx8 hy8 x.2.1 y.2.1 _ _ x.2.2 y.2.2 rfl rfl (by omega) _ _ hM.lt (hM.facts (RdF (Value.int .u8) x.2.1 x.1.x.flatten) (by (repeat (first | exact List.mem_cons_self | refine List.mem_cons_of_mem _ ?_)))) (hM.facts (RdF (Value.int .u8) y.2.1 y.1.x.flatten) (by (repeat (first | exact List.mem_cons_self | refine List.mem_cons_of_mem _ ?_))))); clear hF hM a; rintro v w a rfl - hM hF) | (with_reducible refine q_then_n ?_) | ((with_reducible apply s_pure hF); exact rfl; exact rfl; exact rfl; (first | exact trivial | omega | exact ⟨Int.natCast_nonneg _, Int.ofNat_lt.2 (by assumption)⟩ | decide); clear hF a; intro a hF) | ((with_reducible apply s_load hF hM); exact rfl; exact rfl; (repeat (first | exact List.mem_cons_self | refine List.mem_cons_of_mem _ ?_)); exact rfl; exact rfl; clear hF a; intro a hF) | ((with_reducible apply s_box hF hM); exact rfl; exact rfl; exact rfl; exact rfl; clear hF hM a; intro b w a hM hF) | (with_reducible refine w_ret ?_)))
  (apply f_ret Try.results40 hF hM; (repeat (first | exact RL.nil | (apply RL.tmp; exact rfl) | (apply RL.cell; exact rfl; (repeat (first | exact List.mem_cons_self | refine List.mem_cons_of_mem _ ?_)); exact rfl))); refine Ret.mk hM.since ?_; dsimp only [resV])
set_option maxRecDepth 20000 in
set_option maxHeartbeats 2000000 in
theorem eqf_c (ps qs : List P) (he : ims ps = ims qs) (hpw : DatW ps) (hqw : DatW qs) (hpx : ∀ p ∈ ps, p.1.x.length ≤ 100000) (a1 a2 : Option Addr) (n1 n2 c1 c2 : Nat) (hn1 : ps.length = n1) (hn2 : qs.length = n2) (hl1 : n1 ≤ 100000) (own : Nat → Prop) (W : World) (hl : ∀ b, own b → b < W.heap.size)
    (h1 : Has own W (RdF id a1 (cellsP ps))) (h2 : Has own W (DatF ps)) (h3 : Has own W (RdF id a2 (cellsP qs))) (h4 : Has own W (DatF qs)) :
    Calls Try.prog 39 ⟨[.slice a1 n1 c1, .slice a2 n2 c2, .func (.func 40) #[] #[]]⟩ W (Ret W fun v _ => v = .bool true) := by
  have hM := ((((Mm.start hl).known h4).known h3).known h2).known h1
  subst hn1 hn2
  have hlq : ps.length = qs.length := by rw [← ims_len, he, ims_len]
  refine f_start Try.func39 rfl Try.ntmps39 rfl rfl ?_; intro a hF
  (repeat' (first | (with_reducible refine w_seq ?_) | (with_reducible refine c_region ?_) | (with_reducible refine s_nil ?_) | (with_reducible refine q_then_n ?_) | ((with_reducible apply s_pure hF); exact rfl; exact rfl; exact rfl; (first | exact trivial | omega | exact ⟨Int.natCast_nonneg _, Int.ofNat_lt.2 (by assumption)⟩ | decide); clear hF a; intro a hF) | (with_reducible refine w_skip ?_) | (with_reducible refine w_block ?_) | ((with_reducible apply c_dec hF); exact rfl; all_goals intro hc; all_goals (try (exfalso; omega)))))
  refine c_loop (m := ps.length) (fun m a w' => ∃ k : Nat, m + k = ps.length ∧
    Fr 32 [] [(17, .int .i64 k), (16, .int .i64 ps.length), (15, .slice a1 ps.length c1), (0, .slice a1 ps.length c1), (1, .slice a2 qs.length c2), (2, .func (.func 40) #[] #[])] a ∧
    Mm own W [] [] [RdF id a1 (ps.map itC).flatten, DatF ps, RdF id a2 (qs.map itC).flatten, DatF qs] w') ⟨0, by omega, hF.sub (by repeat (first | exact Sub.nil | refine Sub.cons rfl (by first | with_reducible rfl | (refine congrArg (Value.int _) ?_; omega) | exact rfl) ?_)), hM⟩ ?_
  clear hF hM a
  rintro m a w' ⟨k, hm, hF, hM⟩
  by_cases hk : k < ps.length
  · obtain ⟨p, hp⟩ := get_of_lt hk
    obtain ⟨q, hq⟩ := get_of_lt (l := qs) (i := k) (by omega)
    have hpm := List.mem_of_getElem? hp
    have hqm := List.mem_of_getElem? hq
    have hpq : p.1 = q.1 := by
      have e1 := ims_get hp
      rw [he, ims_get hq] at e1
      injection e1 with e1
      exact e1.symm
    have hpe : (ps.map itC)[k]? = some [.int .u64 p.1.d, .slice p.2.1 p.1.x.length p.2.2] := by rw [List.getElem?_map, hp]; rfl
    have hqe : (qs.map itC)[k]? = some [.int .u64 q.1.d, .slice q.2.1 q.1.x.length q.2.2] := by rw [List.getElem?_map, hq]; rfl
    have hw1 := itC_len ps
    have hw2 := itC_len qs
    obtain ⟨ad1, rfl⟩ : ∃ ad, a1 = some ad := rd_some hM (enc := id) (a := a1) (xs := (ps.map itC).flatten) (by (repeat (first | with_reducible exact List.mem_cons_self | refine List.mem_cons_of_mem _ ?_))) (flat_get (q := 0) hw1 hpe rfl)
    obtain ⟨ad2, rfl⟩ : ∃ ad, a2 = some ad := rd_some hM (enc := id) (a := a2) (xs := (qs.map itC).flatten) (by (repeat (first | with_reducible exact List.mem_cons_self | refine List.mem_cons_of_mem _ ?_))) (flat_get (q := 0) hw2 hqe rfl)
    have e3 := fun {own W} hl => saves3_c p q (hpw p hpm).1 (hqw q hqm).1 (hpx p hpm) own W hl
    rw [decide_eq_true (by rw [hpq])] at e3
    (repeat' (first | (with_reducible refine w_seq ?_) | (with_reducible refine c_region ?_) | (with_reducible refine s_nil ?_) | ((with_reducible apply s_callc (f := 40) hF hM); exact rfl; exact rfl; exact rfl; exact rfl; exact rfl; exact rfl; exact rfl; exact (e3 hM.lt (dat_one (hM.facts (DatF ps) (by (repeat (first | with_reducible exact List.mem_cons_self | refine List.mem_cons_of_mem _ ?_)))) hpm) (dat_one (hM.facts (DatF qs) (by (repeat (first | with_reducible exact List.mem_cons_self | refine List.mem_cons_of_mem _ ?_)))) hqm)); clear hF hM a; rintro v w a rfl - hM hF) | ((with_reducible apply s_loadE hF hM); exact rfl; exact rfl; (repeat (first | exact List.mem_cons_self | refine List.mem_cons_of_mem _ ?_)); exact rfl; exact rfl; (first | with_reducible assumption | (simp only [Int.toNat_natCast]; with_reducible assumption)); (with_reducible assumption); clear hF a; intro a hF) | (with_reducible refine q_then_n ?_) | ((with_reducible apply s_pure hF); exact rfl; exact rfl; exact rfl; (first | exact trivial | omega | exact ⟨Int.natCast_nonneg _, Int.ofNat_lt.2 (by assumption)⟩ | decide); clear hF a; intro a hF) | ((with_reducible apply s_load hF hM); exact rfl; exact rfl; (repeat (first | exact List.mem_cons_self | refine List.mem_cons_of_mem _ ?_)); exact rfl; exact rfl; clear hF a; intro a hF) | ((with_reducible apply s_store hF hM); exact rfl; exact rfl; exact rfl; exact rfl; (repeat (first | exact Upd.z | apply Upd.s)); exact rfl; exact rfl; exact rfl; clear hM; intro w hM) | ((with_reducible apply s_alloc hF hM); exact rfl; exact rfl; exact rfl; clear hF hM a; intro b w a hM hF) | (with_reducible refine w_skip ?_) | (with_reducible refine w_block ?_) | (with_reducible refine q_blk_n ?_) | ((with_reducible apply c_false2 hF); exact rfl; (first | with_reducible rfl | (refine congrArg Value.bool ?_; focus (simp; done)))) | ((with_reducible apply c_dec hF); exact rfl; all_goals intro hc; all_goals (try (exfalso; omega)))))
    exact ⟨m - 1, by omega, k + 1, by omega, hF.sub (by repeat (first | exact Sub.nil | refine Sub.cons rfl (by first | with_reducible rfl | (refine congrArg (Value.int _) ?_; omega) | exact rfl) ?_)), hM.sub (.cons _ (.cons _ (.refl _))) (.refl _) (fun f hf => hf)⟩
  · (repeat' (first | (with_reducible refine w_seq ?_) | (with_reducible refine c_region ?_) | (with_reducible refine s_nil ?_) | (with_reducible refine q_then_n ?_) | ((with_reducible apply s_pure hF); exact rfl; exact rfl; exact rfl; (first | exact trivial | omega | exact ⟨Int.natCast_nonneg _, Int.ofNat_lt.2 (by assumption)⟩ | decide); clear hF a; intro a hF) | (with_reducible refine w_exit ?_) | (with_reducible refine w_ret ?_) | (with_reducible refine q_then_x ?_) | (with_reducible refine q_blk_x ?_) | ((with_reducible apply c_dec hF); exact rfl; all_goals intro hc; all_goals (try (exfalso; omega)))))
    (apply f_ret Try.results39 hF hM; (repeat (first | exact RL.nil | (apply RL.tmp; exact rfl) | (apply RL.cell; exact rfl; (repeat (first | exact List.mem_cons_self | refine List.mem_cons_of_mem _ ?_)); exact rfl))); refine Ret.mk hM.since ?_; dsimp only [resV])
namespace D29
/-- Chunks that all have room stay, and are encoded as references. -/
theorem saves_refs {cap : Int} {xs : List Dat} (hu : ((unq xs []).length : Int) ≤ cap) (hno : ∀ x ∈ xs, ∀ y ∈ xs, dg x = dg y → x = y) : (encI cap xs []).1 = unq xs [] ∧ (∀ t ∈ (encI cap xs (unq xs [])).2, t.r = true) ∧ (encI cap xs (unq xs [])).1 = unq xs [] := by
  have h1 : ∀ i ∈ unq xs [], i.x ∈ xs ∧ i.d = dg i.x := fun i hi => by
    rcases unq_mem hi with h | h
    · simp at h
    · exact h
  obtain ⟨k1, k2⟩ := enc_refs (cap := cap) (l := unq xs []) (fun i hi => (h1 i hi).2) (xs := xs) (fun x hx => unq_has hx) (fun x hx i hi e => hno i.x (h1 i hi).1 x hx (by rw [← (h1 i hi).2, e]))
  exact ⟨enc_unq hu, k1, k2⟩
end D29
set_option maxRecDepth 20000 in
set_option maxHeartbeats 16000000 in
theorem saves29_c (cp : Int) (ps : List P) (a0 : Option Addr) (c0 : Nat) (hc0 : ps.length ≤ c0) (hDW : DatW ps) (W : World) (h1 : Has (fun _ => False) W (RdF id a0 (cellsP ps))) (h2 : Has (fun _ => False) W (DatF ps)) (l : Dat) (hl8 : W8 l) (hlb : By8 l) (al : Option Addr) (cl : Nat) (hcl : l.length ≤ cl) (hx : Has (fun _ => False) W (RdF (Value.int .u8) al l.flatten)) (y : Int) (hy : 0 ≤ y ∧ y < 256) :
    Calls Try.prog 7 ⟨[.agg #[.int .i64 cp, .slice a0 ps.length c0], .slice al l.length cl, .int .u8 y]⟩ W (Ret W fun v _ => v = .bool true) := by
  have hM := (((Mm.start (own := fun _ => False) (w := W) (fun _ h => h.elim)).known hx).known h2).known h1
  refine f_start Try.func7 rfl Try.ntmps7 rfl rfl ?_; intro a hF
  (repeat (first | (with_reducible refine w_seq ?_) | (with_reducible refine c_region ?_) | (with_reducible refine s_nil ?_) | (with_reducible refine q_then_n ?_) | ((with_reducible apply s_pure hF); exact rfl; exact rfl; exact rfl; (first | exact trivial | omega | exact ⟨Int.natCast_nonneg _, Int.ofNat_lt.2 (by assumption)⟩ | decide); clear hF a; intro a hF) | ((with_reducible apply s_load hF hM); exact rfl; exact rfl; (repeat (first | exact List.mem_cons_self | refine List.mem_cons_of_mem _ ?_)); exact rfl; exact rfl; clear hF a; intro a hF) | ((with_reducible apply s_box hF hM); exact rfl; exact rfl; exact rfl; exact rfl; clear hF hM a; intro b w a hM hF)))
  generalize b = b3 at *
  (((with_reducible apply s_call (f := 12) hF hM); exact rfl; exact rfl; exact rfl; exact rfl; exact rfl; exact (Few_c cp ps a0 _ c0 rfl _ _ hM.lt (hM.facts (RdF id a0 (cellsP ps)) (by (repeat (first | with_reducible exact List.mem_cons_self | refine List.mem_cons_of_mem _ ?_))))); clear hF hM a; rintro v w a ⟨f, rfl, hf⟩ - hM hF))
  cases f with
  | false =>
    (repeat' (first | (with_reducible refine w_seq ?_) | (with_reducible refine c_region ?_) | (with_reducible refine s_nil ?_) | ((with_reducible apply s_call (f := 13) hF hM); exact rfl; exact rfl; exact rfl; exact rfl; exact rfl; exact (awake_c _ _ hM.lt); clear hF hM a; rintro v w a rfl - hM hF) | (with_reducible refine q_then_n ?_) | ((with_reducible apply s_pure hF); exact rfl; exact rfl; exact rfl; (first | exact trivial | omega | exact ⟨Int.natCast_nonneg _, Int.ofNat_lt.2 (by assumption)⟩ | decide); clear hF a; intro a hF) | (with_reducible refine w_ret ?_) | (with_reducible refine q_then_r ?_) | ((with_reducible apply c_true2 hF); exact rfl; (first | with_reducible rfl | (refine congrArg Value.bool ?_; focus (simp; done)))) | ((with_reducible apply s_skip hF); exact rfl; exact rfl; clear hF a; intro a hF)))
    (apply f_ret Try.results7 hF hM; (repeat (first | exact RL.nil | (apply RL.tmp; exact rfl) | (apply RL.cell; exact rfl; (repeat (first | exact List.mem_cons_self | refine List.mem_cons_of_mem _ ?_)); exact rfl))); refine Ret.mk hM.since ?_; dsimp only [resV])
  | true =>
  obtain ⟨hl40, hx40⟩ := hf rfl
  by_cases hl60 : 60 < l.length
  · (repeat' (first | (with_reducible refine w_seq ?_) | (with_reducible refine c_region ?_) | (with_reducible refine s_nil ?_) | ((with_reducible apply s_call (f := 13) hF hM); exact rfl; exact rfl; exact rfl; exact rfl; exact rfl; exact (awake_c _ _ hM.lt); clear hF hM a; rintro v w a rfl - hM hF) | (with_reducible refine q_then_n ?_) | ((with_reducible apply s_pure hF); exact rfl; exact rfl; exact rfl; (first | exact trivial | omega | exact ⟨Int.natCast_nonneg _, Int.ofNat_lt.2 (by assumption)⟩ | decide); clear hF a; intro a hF) | (with_reducible refine w_ret ?_) | (with_reducible refine q_then_r ?_) | ((with_reducible apply c_true2 hF); exact rfl; (first | with_reducible rfl | (refine congrArg Value.bool ?_; focus (simp; done)))) | ((with_reducible apply s_skip hF); exact rfl; exact rfl; clear hF a; intro a hF) | ((fail_if_success ((with_reducible refine g_known true hF ?_ ?_); focus exact rfl)); (fail_if_success ((with_reducible refine g_known false hF ?_ ?_); focus exact rfl)); (with_reducible apply g_dec hF); exact rfl; exact rfl; all_goals (clear hF; intro hc hF); all_goals (try (exfalso; omega)))))
    (apply f_ret Try.results7 hF hM; (repeat (first | exact RL.nil | (apply RL.tmp; exact rfl) | (apply RL.cell; exact rfl; (repeat (first | exact List.mem_cons_self | refine List.mem_cons_of_mem _ ?_)); exact rfl))); refine Ret.mk hM.since ?_; dsimp only [resV])
  have hpx : ∀ p ∈ ps, p.1.x.length ≤ 100000 := fun p hp => Nat.le_trans (hx40 p hp) (by omega)
  have e1 := fun {own W} hl h1 h2 => Check29_c cp ps a0 c0 ps.length rfl (by omega) hDW hpx own W hl h1 h2
  by_cases hck : check ⟨cp, ims ps⟩ = 0
  case neg =>
    generalize check ⟨cp, ims ps⟩ = e at *
    (repeat' (first | (with_reducible refine w_seq ?_) | (with_reducible refine c_region ?_) | (with_reducible refine s_nil ?_) | ((with_reducible apply s_call (f := 24) hF hM); exact rfl; exact rfl; exact rfl; exact rfl; exact rfl; exact (e1 hM.lt (hM.facts (RdF id a0 (cellsP ps)) (by (repeat (first | with_reducible exact List.mem_cons_self | refine List.mem_cons_of_mem _ ?_)))) (hM.facts (DatF ps) (by (repeat (first | with_reducible exact List.mem_cons_self | refine List.mem_cons_of_mem _ ?_))))); clear hF hM a; rintro v w a rfl - hM hF) | ((with_reducible apply s_call (f := 13) hF hM); exact rfl; exact rfl; exact rfl; exact rfl; exact rfl; exact (awake_c _ _ hM.lt); clear hF hM a; rintro v w a rfl - hM hF) | (with_reducible refine q_then_n ?_) | ((with_reducible apply s_pure hF); exact rfl; exact rfl; exact rfl; (first | exact trivial | omega | exact ⟨Int.natCast_nonneg _, Int.ofNat_lt.2 (by assumption)⟩ | decide); clear hF a; intro a hF) | ((with_reducible apply s_load hF hM); exact rfl; exact rfl; (repeat (first | exact List.mem_cons_self | refine List.mem_cons_of_mem _ ?_)); exact rfl; exact rfl; clear hF a; intro a hF) | (with_reducible refine w_ret ?_) | (with_reducible refine q_then_r ?_) | ((with_reducible apply c_true2 hF); exact rfl; (first | with_reducible rfl | (refine congrArg Value.bool ?_; focus (simp; done)))) | ((with_reducible apply s_skip hF); exact rfl; exact rfl; clear hF a; intro a hF) | ((fail_if_success ((with_reducible refine g_known true hF ?_ ?_); focus exact rfl)); (fail_if_success ((with_reducible refine g_known false hF ?_ ?_); focus exact rfl)); (with_reducible apply g_dec hF); exact rfl; exact rfl; all_goals (clear hF; intro hc hF); all_goals (try (exfalso; omega)))))
    all_goals first | (exfalso; omega) | (apply f_ret Try.results7 hF hM; (repeat (first | exact RL.nil | (apply RL.tmp; exact rfl) | (apply RL.cell; exact rfl; (repeat (first | exact List.mem_cons_self | refine List.mem_cons_of_mem _ ?_)); exact rfl))); refine Ret.mk hM.since ?_; dsimp only [resV])
  rw [hck] at e1
  have hok := check_ok.1 hck
  obtain ⟨N, hN⟩ : ∃ N : Nat, y % 8 + 1 = N := ⟨(y % 8 + 1).toNat, by omega⟩
  have hN1 : 1 ≤ N ∧ N ≤ 4096 := by omega
  (repeat' (first | ((with_reducible apply s_call (f := 24) hF hM); exact rfl; exact rfl; exact rfl; exact rfl; exact rfl; exact (e1 hM.lt (hM.facts (RdF id a0 (cellsP ps)) (by (repeat (first | with_reducible exact List.mem_cons_self | refine List.mem_cons_of_mem _ ?_)))) (hM.facts (DatF ps) (by (repeat (first | with_reducible exact List.mem_cons_self | refine List.mem_cons_of_mem _ ?_))))); clear hF hM a; rintro v w a rfl - hM hF) | ((with_reducible apply s_pure hF); exact rfl; exact rfl; exact rfl; (first | exact trivial | omega | exact ⟨Int.natCast_nonneg _, Int.ofNat_lt.2 (by assumption)⟩ | decide); clear hF a; intro a hF) | ((with_reducible apply s_load hF hM); exact rfl; exact rfl; (repeat (first | exact List.mem_cons_self | refine List.mem_cons_of_mem _ ?_)); exact rfl; exact rfl; clear hF a; intro a hF) | ((with_reducible apply s_lit hF hM); exact rfl; exact rfl; exact rfl; exact rfl; clear hF hM a; intro bl w a hM hF) | ((fail_if_success ((with_reducible refine g_known true hF ?_ ?_); focus exact rfl)); (fail_if_success ((with_reducible refine g_known false hF ?_ ?_); focus exact rfl)); (with_reducible apply g_dec hF); exact rfl; exact rfl; all_goals (clear hF; intro hc hF); all_goals (try (exfalso; omega)))))
  all_goals first | (exfalso; omega) | skip
  rw [hN] at hF
  replace hM := hM.freeze
  replace hM := hM.addFact (Has.lit (enc := id) (hM.facts _ List.mem_cons_self) (([(cp, ps, a0, c0)] : List SL).map stC).flatten rfl)
  replace hM := hM.addFact (StF.all (S := [(cp, ps, a0, c0)]) fun s hs => by
    rw [List.mem_singleton.1 hs]
    exact ⟨hM.facts (RdF id a0 (cellsP ps)) (by (repeat (first | with_reducible exact List.mem_cons_self | refine List.mem_cons_of_mem _ ?_))), hM.facts (DatF ps) (by (repeat (first | with_reducible exact List.mem_cons_self | refine List.mem_cons_of_mem _ ?_)))⟩)
  have hSS : ∀ s ∈ ([(cp, ps, a0, c0)] : List SL), DatW s.2.1 ∧ s.2.1.length ≤ 4096 := fun s hs => by
    rw [List.mem_singleton.1 hs]
    exact ⟨hDW, by show ps.length ≤ 4096; omega⟩
  (((with_reducible apply s_call (f := 33) hF hM); exact rfl; exact rfl; exact rfl; exact rfl; exact rfl; exact (lchunks_c l hl8 hlb al cl l.length rfl (by omega) hcl N hN1 [(cp, ps, a0, c0)] 1 rfl (by omega) hSS (some ⟨bl, 0, none⟩) 1 _ _ hM.lt (hM.facts (RdF (Value.int .u8) al l.flatten) (by (repeat (first | with_reducible exact List.mem_cons_self | refine List.mem_cons_of_mem _ ?_)))) (hM.facts (RdF id (some ⟨bl, 0, none⟩) (([(cp, ps, a0, c0)] : List SL).map stC).flatten) (by (repeat (first | with_reducible exact List.mem_cons_self | refine List.mem_cons_of_mem _ ?_)))) (hM.facts (StF [(cp, ps, a0, c0)]) (by (repeat (first | with_reducible exact List.mem_cons_self | refine List.mem_cons_of_mem _ ?_))))); clear hF hM a; rintro v w a ⟨xa, xc, rfl, qs, q1, q2, q3, q4, q5⟩ - hM hF))
  replace hM := (hM.addFact q3).addFact q4
  have hal := allI_len N l [(cp, ps, a0, c0)]
  rw [show ((([(cp, ps, a0, c0)] : List SL).map fun s => ims s.2.1).flatten).length = ps.length by simp [ims_len]] at hal
  have hax := ims_x q1 (allI_x (l := l) (S := [(cp, ps, a0, c0)]) hN1 (q := 100000) (by omega) (fun s hs => by rw [List.mem_singleton.1 hs]; exact hpx))
  have hql : qs.length = (allI N l [(cp, ps, a0, c0)]).length := by rw [← ims_len, q1]
  (repeat (first | fail))
  (((with_reducible apply s_call (f := 32) hF hM); exact rfl; exact rfl; exact rfl; exact rfl; exact rfl; exact (collide_c qs xa xc _ hql (by omega) q2 hax q5 _ _ hM.lt (hM.facts (RdF id xa (cellsP qs)) (by (repeat (first | with_reducible exact List.mem_cons_self | refine List.mem_cons_of_mem _ ?_)))) (hM.facts (DatF qs) (by (repeat (first | with_reducible exact List.mem_cons_self | refine List.mem_cons_of_mem _ ?_))))); clear hF hM a; rintro v w a ⟨f, rfl, hf⟩ - hM hF))
  cases f with
  | true =>
    (repeat' (first | (with_reducible refine w_seq ?_) | (with_reducible refine c_region ?_) | (with_reducible refine s_nil ?_) | ((with_reducible apply s_call (f := 13) hF hM); exact rfl; exact rfl; exact rfl; exact rfl; exact rfl; exact (awake_c _ _ hM.lt); clear hF hM a; rintro v w a rfl - hM hF) | (with_reducible refine q_then_n ?_) | ((with_reducible apply s_pure hF); exact rfl; exact rfl; exact rfl; (first | exact trivial | omega | exact ⟨Int.natCast_nonneg _, Int.ofNat_lt.2 (by assumption)⟩ | decide); clear hF a; intro a hF) | (with_reducible refine w_ret ?_) | (with_reducible refine q_then_r ?_) | ((with_reducible apply c_true2 hF); exact rfl; (first | with_reducible rfl | (refine congrArg Value.bool ?_; focus (simp; done))))))
    (apply f_ret Try.results7 hF hM; (repeat (first | exact RL.nil | (apply RL.tmp; exact rfl) | (apply RL.cell; exact rfl; (repeat (first | exact List.mem_cons_self | refine List.mem_cons_of_mem _ ?_)); exact rfl))); refine Ret.mk hM.since ?_; dsimp only [resV])
  | false =>
  replace hf := hf rfl
  rw [q1] at hf
  have hno : ∀ x ∈ parts N l, ∀ y ∈ parts N l, dg x = dg y → x = y := fun x hx y hy e => hf (mkI x) (List.mem_append_left _ (List.mem_map.2 ⟨x, hx, rfl⟩)) (mkI y) (List.mem_append_left _ (List.mem_map.2 ⟨y, hy, rfl⟩)) e
  clear hf q1 q2 q3 q4 q5 hal hax hql
  have henc := enc_ok hck hN1.1 hN1.2 l
  obtain ⟨bd1, bd2, bd3⟩ := enc_bd henc
  have e2 := fun {own W} hl h1 h2 hx => Encode29_c cp ps a0 c0 ps.length rfl (by omega) hDW hpx own W hl h1 h2 l hl8 hlb al cl l.length rfl (by omega) hcl hx (N : Int)
  rw [show encR ⟨cp, ims ps⟩ l (N : Int) = .ok (encI cp (parts N l) (ims ps)) from henc] at e2
  obtain ⟨⟨ri, rt⟩, hr⟩ : ∃ r, encI cp (parts N l) (ims ps) = r := ⟨_, rfl⟩
  rw [hr] at e2 bd1 bd2 bd3
  dsimp only at bd1 bd2 bd3
  have hri := sok_len bd1
  have hri2 : (ri.length : Int) ≤ cp := bd1.len
  (repeat' (first | (with_reducible refine w_seq ?_) | (with_reducible refine c_region ?_) | (with_reducible refine s_nil ?_) | (with_reducible refine q_then_n ?_) | ((with_reducible apply s_pure hF); exact rfl; exact rfl; exact rfl; (first | exact trivial | omega | exact ⟨Int.natCast_nonneg _, Int.ofNat_lt.2 (by assumption)⟩ | decide); clear hF a; intro a hF) | ((with_reducible apply s_load hF hM); exact rfl; exact rfl; (repeat (first | exact List.mem_cons_self | refine List.mem_cons_of_mem _ ?_)); exact rfl; exact rfl; clear hF a; intro a hF) | (with_reducible refine w_skip ?_) | ((with_reducible apply c_false2 hF); exact rfl; (first | with_reducible rfl | (refine congrArg Value.bool ?_; focus (simp; done))))))
  (((with_reducible apply s_call (f := 14) hF hM); exact rfl; exact rfl; exact rfl; exact rfl; exact rfl; exact (e2 hM.lt (hM.facts (RdF id a0 (cellsP ps)) (by (repeat (first | with_reducible exact List.mem_cons_self | refine List.mem_cons_of_mem _ ?_)))) (hM.facts (DatF ps) (by (repeat (first | with_reducible exact List.mem_cons_self | refine List.mem_cons_of_mem _ ?_)))) (hM.facts (RdF (Value.int .u8) al l.flatten) (by (repeat (first | with_reducible exact List.mem_cons_self | refine List.mem_cons_of_mem _ ?_))))); clear hF hM a; rintro v w a ⟨x1, y1, x2, y2, rfl, ⟨ds, d1, d2, d3, d4, d5⟩, us, u1, u2, u3, u4, u5⟩ - hM hF))
  dsimp only at hF d1 d5
  replace hM := (hM.addFact d3).addFact d4
  have hdl : ds.length = ri.length := by rw [← ims_len, d1]
  clear d3 d4 u1 u2 u3 u4 u5 us e1 e2
  (repeat' (first | (with_reducible refine w_seq ?_) | (with_reducible refine c_region ?_) | (with_reducible refine s_nil ?_) | (with_reducible refine q_then_n ?_) | ((with_reducible apply s_pure hF); exact rfl; exact rfl; exact rfl; (first | exact trivial | omega | exact ⟨Int.natCast_nonneg _, Int.ofNat_lt.2 (by assumption)⟩ | decide); clear hF a; intro a hF) | ((with_reducible apply s_load hF hM); exact rfl; exact rfl; (repeat (first | exact List.mem_cons_self | refine List.mem_cons_of_mem _ ?_)); exact rfl; exact rfl; clear hF a; intro a hF) | ((with_reducible apply s_store hF hM); exact rfl; exact rfl; exact rfl; exact rfl; (repeat (first | exact Upd.z | apply Upd.s)); exact rfl; exact rfl; exact rfl; clear hM; intro w hM) | ((with_reducible apply s_alloc hF hM); exact rfl; exact rfl; exact rfl; clear hF hM a; intro b w a hM hF) | (with_reducible refine w_skip ?_) | ((with_reducible apply c_dec hF); exact rfl; all_goals intro hc; all_goals (try (exfalso; omega)))))
  all_goals first | (exfalso; omega) | skip
  generalize b = b8 at *
  (((with_reducible apply s_call (f := 33) hF hM); exact rfl; exact rfl; exact rfl; exact rfl; exact rfl; exact (lchunks_c l hl8 hlb al cl l.length rfl (by omega) hcl N hN1 [] 0 rfl (by omega) (fun s hs => (List.not_mem_nil hs).elim) none 0 _ _ hM.lt (hM.facts (RdF (Value.int .u8) al l.flatten) (by (repeat (first | with_reducible exact List.mem_cons_self | refine List.mem_cons_of_mem _ ?_)))) RdF.nil (Has.pure fun _ s hs => (List.not_mem_nil hs).elim)); clear hF hM a; rintro v w a ⟨xb, xe, rfl, ks, k1, k2, k3, k4, k5⟩ - hM hF))
  replace hM := (hM.addFact k3).addFact k4
  have hki : ims ks = (parts N l).map mkI := by rw [k1]; simp [allI]
  have hkl : ks.length = (allI N l []).length := by rw [← ims_len, k1]
  have hkp : ks.length = (parts N l).length := by rw [← ims_len, hki, List.length_map]
  have hkn : ks.length ≤ 10000 := by
    rw [hkp, parts_num]
    have := Nat.div_le_self (l.length + N - 1) N
    omega
  have hkx : ∀ p ∈ ks, p.1.x.length ≤ 100000 := ims_x k1 (allI_x (l := l) (S := []) hN1 (q := 100000) (by omega) (fun s hs => by simp at hs))
  rw [← hkl] at hF
  clear k1 k3 k4 k5
  (repeat' (first | (with_reducible refine s_nil ?_) | (with_reducible refine q_then_n ?_) | ((with_reducible apply s_pure hF); exact rfl; exact rfl; exact rfl; (first | exact trivial | omega | exact ⟨Int.natCast_nonneg _, Int.ofNat_lt.2 (by assumption)⟩ | decide); clear hF a; intro a hF) | (with_reducible refine w_block ?_)))
  have hrow := (hM.nilRow 57 2).addFact (f := DatF []) (Has.pure fun _ p hp => by simp at hp)
  refine c_loop (m := ks.length) (fun m a w' => ∃ (k : Nat) (dif : List P) (dv : Value) (dn : Nat), m + k = ks.length ∧ dif.length = dn ∧ ims dif = unq ((parts N l).take k) [] ∧ DatW dif ∧ dn ≤ k ∧
    Fr 111 [] [(65, .int .i64 k), (64, .int .i64 ks.length), (63, .slice xb ks.length xe), (11, dv), (8, .pointer (some ⟨b8, 0, none⟩)), (7, .int .i64 N), (3, .pointer (some ⟨b3, 0, none⟩)), (1, .slice al l.length cl)] a ∧
    Mm (fun _ => False) W [⟨b8, ⟨[.int .i64 cp, .slice x1 ri.length y1]⟩, 24⟩, ⟨b3, ⟨[.int .i64 cp, .slice a0 ps.length c0]⟩, 24⟩] [⟨57, 2, dv, dn, cellsP dif⟩] [DatF dif, RdF id xb (ks.map itC).flatten, DatF ks, RdF id x1 (cellsP ds), DatF ds, RdF (Value.int .u8) al l.flatten] w')
    ⟨0, [], _, 0, by omega, rfl, rfl, fun p hp => by simp at hp, Nat.le_refl _, hF.sub (by repeat (first | exact Sub.nil | refine Sub.cons rfl (by first | with_reducible rfl | (refine congrArg (Value.int _) ?_; omega) | exact rfl) ?_)), hrow.sub (.refl _) (.refl _) (fun f hf => by simp only [List.mem_cons, List.not_mem_nil, or_false] at hf ⊢; rcases hf with h | h | h | h | h | h <;> simp [h, cellsP])⟩ ?_
  clear hF hM hrow a
  rintro m a w' ⟨k, dif, dv, dn, hm, hdn, hdi, hdw, hdk, hF, hM⟩
  by_cases hk : k < ks.length
  · obtain ⟨p, hp⟩ := get_of_lt hk
    have hpm := List.mem_of_getElem? hp
    have hp8 := (k2 p hpm).1
    have hpw := k2 p hpm
    have hp4 := hkx p hpm
    have hpr := dat_one (hM.facts (DatF ks) (by (repeat (first | with_reducible exact List.mem_cons_self | refine List.mem_cons_of_mem _ ?_)))) hpm
    have hpg := ims_get hp
    rw [hki, List.getElem?_map] at hpg
    obtain ⟨x, hxk, hpx2⟩ : ∃ x, (parts N l)[k]? = some x ∧ mkI x = p.1 := by
      cases hxk : (parts N l)[k]? with
      | none => rw [hxk] at hpg; cases hpg
      | some x => rw [hxk] at hpg; injection hpg with hpg; exact ⟨x, rfl, hpg⟩
    have htk : unq ((parts N l).take (k + 1)) [] = if hasD (ims dif) p.1.x then ims dif else ims dif ++ [p.1] := by
      rw [take_snoc hxk, unq_snoc, ← hdi, ← hpx2]
      rfl
    have hpe : (ks.map itC)[k]? = some [.int .u64 p.1.d, .slice p.2.1 p.1.x.length p.2.2] := by rw [List.getElem?_map, hp]; rfl
    have hw := itC_len ks
    obtain ⟨ad, rfl⟩ : ∃ ad, xb = some ad := rd_some hM (enc := id) (a := xb) (xs := (ks.map itC).flatten) (by (repeat (first | with_reducible exact List.mem_cons_self | refine List.mem_cons_of_mem _ ?_))) (flat_get (q := 0) hw hpe rfl)
    obtain ⟨av, cv, rfl, hcv, -⟩ := OffR.shape hM (k := 0) rfl (OffR.plain hM List.mem_cons_self)
    have hany : ((ims dif).any fun i => decide (p.1.x = i.x)) = hasD (ims dif) p.1.x := by
      unfold hasD
      congr 1
      funext i
      exact decide_eq_decide.2 eq_comm
    replace hM := hM.addFact hpr
    (repeat' (first | (with_reducible refine w_seq ?_) | (with_reducible refine c_region ?_) | (with_reducible refine s_nil ?_) | ((with_reducible apply s_loadE hF hM); exact rfl; exact rfl; (repeat (first | exact List.mem_cons_self | refine List.mem_cons_of_mem _ ?_)); exact rfl; exact rfl; (first | with_reducible assumption | (simp only [Int.toNat_natCast]; with_reducible assumption)); (with_reducible assumption); clear hF a; intro a hF) | (with_reducible refine q_then_n ?_) | ((with_reducible apply s_pure hF); exact rfl; exact rfl; exact rfl; (first | exact trivial | omega | exact ⟨Int.natCast_nonneg _, Int.ofNat_lt.2 (by assumption)⟩ | decide); clear hF a; intro a hF) | ((with_reducible apply s_store hF hM); exact rfl; exact rfl; exact rfl; exact rfl; (repeat (first | exact Upd.z | apply Upd.s)); exact rfl; exact rfl; exact rfl; clear hM; intro w hM) | ((with_reducible apply s_alloc hF hM); exact rfl; exact rfl; exact rfl; clear hF hM a; intro b w a hM hF) | (with_reducible refine w_skip ?_) | (with_reducible refine w_block ?_) | ((with_reducible apply c_dec hF); exact rfl; all_goals intro hc; all_goals (try (exfalso; omega)))))
    generalize b = b13 at *
    replace hM := hM.freeze
    have e3 := fun {W} hl => conC_c 35 [.pointer (some ⟨b13, 0, none⟩)] (fun i => decide (p.1.x = i.x)) (fun w => BxF b13 (itC p) 57 w ∧ RdF (Value.int .u8) p.2.1 p.1.x.flatten w ∧ DatF dif w) rfl dif dn hdn (by omega) (fun t ht own W hl hk => saves1_c p t hp8 (hdw t ht).1 hp4 b13 own W hl (hk.imp fun _ h => h.1) (hk.imp fun _ h => h.2.1) (dat_one (hk.imp fun _ h => h.2.2) ht)) av cv (fun _ => False) W hl
    rw [hany] at e3
    have hfd : Has _ _ (RdF id av (cellsP dif)) := OffR.fact (enc := id) hM (k := 0) rfl (by rw [List.map_id]; exact OffR.plain hM List.mem_cons_self)
    (((with_reducible apply s_call (f := 34) hF hM); exact rfl; exact rfl; exact rfl; exact rfl; exact rfl; exact (e3 (fun b h => h.elim) ((hM.factOut (f := BxF b13 (itC p) 57) (by (repeat (first | exact List.mem_cons_self | refine List.mem_cons_of_mem _ ?_)))).and ((hM.factOut (f := RdF (Value.int .u8) p.2.1 p.1.x.flatten) (by (repeat (first | with_reducible exact List.mem_cons_self | refine List.mem_cons_of_mem _ ?_)))).and (hM.factOut (f := DatF dif) (by (repeat (first | with_reducible exact List.mem_cons_self | refine List.mem_cons_of_mem _ ?_)))))) hfd); clear hF hM a; rintro v w a rfl - hM hF))
    cases hh : hasD (ims dif) p.1.x with
    | true =>
      rw [hh] at hF
      rw [hh, if_pos rfl] at htk
      (repeat' (first | (with_reducible refine c_region ?_) | (with_reducible refine s_nil ?_) | (with_reducible refine q_then_n ?_) | ((with_reducible apply s_pure hF); exact rfl; exact rfl; exact rfl; (first | exact trivial | omega | exact ⟨Int.natCast_nonneg _, Int.ofNat_lt.2 (by assumption)⟩ | decide); clear hF a; intro a hF) | (with_reducible refine w_skip ?_) | (with_reducible refine q_blk_n ?_) | ((with_reducible apply c_false2 hF); exact rfl; (first | with_reducible rfl | (refine congrArg Value.bool ?_; focus (simp; done))))))
      refine ⟨m - 1, by omega, k + 1, dif, _, dn, by omega, hdn, htk.symm, hdw, by omega, hF.sub (by repeat (first | exact Sub.nil | refine Sub.cons rfl (by first | with_reducible rfl | (refine congrArg (Value.int _) ?_; omega) | exact rfl) ?_)), hM.sub (.refl _) (.refl _) (fun f hf => ?_)⟩
      simp only [List.mem_cons, List.not_mem_nil, or_false] at hf ⊢
      rcases hf with h | h | h | h | h | h <;> simp [h]
    | false =>
      rw [hh] at hF
      rw [hh, if_neg (by simp)] at htk
      (repeat' (first | (with_reducible refine c_region ?_) | (with_reducible refine s_nil ?_) | (with_reducible refine q_then_n ?_) | ((with_reducible apply s_pure hF); exact rfl; exact rfl; exact rfl; (first | exact trivial | omega | exact ⟨Int.natCast_nonneg _, Int.ofNat_lt.2 (by assumption)⟩ | decide); clear hF a; intro a hF) | ((with_reducible apply s_loadK hF hM); exact rfl; exact rfl; (repeat (first | exact List.mem_cons_self | refine List.mem_cons_of_mem _ ?_)); exact rfl; exact rfl; clear hF a; intro a hF) | ((with_reducible apply s_lit hF hM); exact rfl; exact rfl; exact rfl; exact rfl; clear hF hM a; intro bl w a hM hF) | ((with_reducible apply s_app hF hM); exact rfl; exact rfl; exact rfl; exact rfl; (repeat (first | exact Kth.z | apply Kth.s)); exact rfl; exact rfl; exact rfl; exact rfl; omega; clear hF hM a; intro g cap w a hM hF; dsimp only [List.set] at hM) | (with_reducible refine q_blk_n ?_) | ((with_reducible apply c_true2 hF); exact rfl; (first | with_reducible rfl | (refine congrArg Value.bool ?_; focus (simp; done))))))
      refine ⟨m - 1, by omega, k + 1, dif ++ [p], .slice (some ⟨g, 0, none⟩) (dn + 1) cap, dn + 1, by omega, by rw [List.length_append, hdn]; rfl, by rw [ims_app, htk]; rfl, hdw.snoc hpw, by omega, hF.sub (by repeat (first | exact Sub.nil | refine Sub.cons rfl (by first | with_reducible rfl | (refine congrArg (Value.int _) ?_; omega) | exact rfl) ?_)), ?_⟩
      rw [cellsP_app]
      exact (hM.addFact (DatF.snoc (hM.facts (DatF dif) (by (repeat (first | with_reducible exact List.mem_cons_self | refine List.mem_cons_of_mem _ ?_)))) (hM.facts (RdF (Value.int .u8) p.2.1 p.1.x.flatten) (by (repeat (first | with_reducible exact List.mem_cons_self | refine List.mem_cons_of_mem _ ?_)))))).sub (.refl _) (.refl _) (fun f hf => by simp only [List.mem_cons, List.not_mem_nil, or_false] at hf ⊢; rcases hf with h | h | h | h | h | h <;> simp [h])
  · obtain rfl : k = ks.length := by omega
    rw [List.take_of_length_le (by omega)] at hdi
    obtain ⟨av, cv, rfl, hcv, -⟩ := OffR.shape hM (k := 0) rfl (OffR.plain hM List.mem_cons_self)
    replace hM := Mm.freezeN (enc := id) (xs := cellsP dif) (by rw [List.map_id]; exact hM)
    by_cases hgt : cp < dn
    · (repeat' (first | (with_reducible refine w_seq ?_) | (with_reducible refine c_region ?_) | (with_reducible refine s_nil ?_) | ((with_reducible apply s_call (f := 13) hF hM); exact rfl; exact rfl; exact rfl; exact rfl; exact rfl; exact (awake_c _ _ hM.lt); clear hF hM a; rintro v w a rfl - hM hF) | (with_reducible refine q_then_n ?_) | ((with_reducible apply s_pure hF); exact rfl; exact rfl; exact rfl; (first | exact trivial | omega | exact ⟨Int.natCast_nonneg _, Int.ofNat_lt.2 (by assumption)⟩ | decide); clear hF a; intro a hF) | ((with_reducible apply s_load hF hM); exact rfl; exact rfl; (repeat (first | exact List.mem_cons_self | refine List.mem_cons_of_mem _ ?_)); exact rfl; exact rfl; clear hF a; intro a hF) | (with_reducible refine w_exit ?_) | (with_reducible refine w_ret ?_) | (with_reducible refine q_then_x ?_) | (with_reducible refine q_then_r ?_) | (with_reducible refine q_blk_x ?_) | ((with_reducible apply c_true2 hF); exact rfl; (first | with_reducible rfl | (refine congrArg Value.bool ?_; focus (simp; done)))) | ((with_reducible apply c_false2 hF); exact rfl; (first | with_reducible rfl | (refine congrArg Value.bool ?_; focus (simp; done)))) | ((with_reducible apply s_skip hF); exact rfl; exact rfl; clear hF a; intro a hF) | ((fail_if_success ((with_reducible refine g_known true hF ?_ ?_); focus exact rfl)); (fail_if_success ((with_reducible refine g_known false hF ?_ ?_); focus exact rfl)); (with_reducible apply g_dec hF); exact rfl; exact rfl; all_goals (clear hF; intro hc hF); all_goals (try (exfalso; omega)))))
      (apply f_ret Try.results7 hF hM; (repeat (first | exact RL.nil | (apply RL.tmp; exact rfl) | (apply RL.cell; exact rfl; (repeat (first | exact List.mem_cons_self | refine List.mem_cons_of_mem _ ?_)); exact rfl))); refine Ret.mk hM.since ?_; dsimp only [resV])
    by_cases hps : 0 < ps.length
    · (repeat' (first | (with_reducible refine w_seq ?_) | (with_reducible refine c_region ?_) | (with_reducible refine s_nil ?_) | ((with_reducible apply s_call (f := 13) hF hM); exact rfl; exact rfl; exact rfl; exact rfl; exact rfl; exact (awake_c _ _ hM.lt); clear hF hM a; rintro v w a rfl - hM hF) | (with_reducible refine q_then_n ?_) | ((with_reducible apply s_pure hF); exact rfl; exact rfl; exact rfl; (first | exact trivial | omega | exact ⟨Int.natCast_nonneg _, Int.ofNat_lt.2 (by assumption)⟩ | decide); clear hF a; intro a hF) | ((with_reducible apply s_load hF hM); exact rfl; exact rfl; (repeat (first | exact List.mem_cons_self | refine List.mem_cons_of_mem _ ?_)); exact rfl; exact rfl; clear hF a; intro a hF) | (with_reducible refine w_exit ?_) | (with_reducible refine w_ret ?_) | (with_reducible refine q_then_x ?_) | (with_reducible refine q_then_r ?_) | (with_reducible refine q_blk_x ?_) | ((with_reducible apply c_false2 hF); exact rfl; (first | with_reducible rfl | (refine congrArg Value.bool ?_; focus (simp; done)))) | ((fail_if_success ((with_reducible refine g_known true hF ?_ ?_); focus exact rfl)); (fail_if_success ((with_reducible refine g_known false hF ?_ ?_); focus exact rfl)); (with_reducible apply g_dec hF); exact rfl; exact rfl; all_goals (clear hF; intro hc hF); all_goals (try (exfalso; omega))) | ((with_reducible apply c_dec hF); exact rfl; all_goals intro hc; all_goals (try (exfalso; omega)))))
      (apply f_ret Try.results7 hF hM; (repeat (first | exact RL.nil | (apply RL.tmp; exact rfl) | (apply RL.cell; exact rfl; (repeat (first | exact List.mem_cons_self | refine List.mem_cons_of_mem _ ?_)); exact rfl))); refine Ret.mk hM.since ?_; dsimp only [resV])
    have hp0 : ps = [] := List.eq_nil_of_length_eq_zero (by omega)
    subst hp0
    have hun : ((unq (parts N l) []).length : Int) ≤ cp := by rw [← hdi, ims_len, hdn]; omega
    obtain ⟨s1, s2, s3⟩ := saves_refs hun hno
    have hriu : ri = unq (parts N l) [] := by
      rw [← s1]
      have : encI cp (parts N l) [] = (ri, rt) := hr
      rw [this]
    have hck2 : check ⟨cp, ims ds⟩ = 0 := by rw [d1]; exact check_ok.2 bd1
    have henc2 := enc_ok hck2 hN1.1 hN1.2 l
    obtain ⟨cd1, cd2, cd3⟩ := enc_bd henc2
    obtain ⟨⟨rj, ru⟩, hr2⟩ : ∃ r, encI cp (parts N l) (ims ds) = r := ⟨_, rfl⟩
    have e2 := fun {own W} hl h1 h2 hx => Encode29_c cp ds x1 y1 ri.length hdl (by omega) d2 (sok_ps bd1 d1) own W hl h1 h2 l hl8 hlb al cl l.length rfl (by omega) hcl hx (N : Int)
    rw [show encR ⟨cp, ims ds⟩ l (N : Int) = .ok (rj, ru) by rw [← hr2]; exact henc2] at e2
    have hrefs : ∀ t ∈ ru, t.r = true := by
      have : encI cp (parts N l) (unq (parts N l) []) = (rj, ru) := by rw [← hr2, d1, hriu]
      rw [this] at s2
      exact s2
    have hru : ru.length ≤ 100000 := by
      have e : (encI (⟨cp, ims ds⟩ : St).cap (parts N l) (⟨cp, ims ds⟩ : St).items).2 = ru := by
        show (encI cp (parts N l) (ims ds)).2 = ru
        rw [hr2]
      rw [e] at cd3
      omega
    (repeat' (first | (with_reducible refine w_seq ?_) | (with_reducible refine c_region ?_) | (with_reducible refine s_nil ?_) | (with_reducible refine q_then_n ?_) | ((with_reducible apply s_pure hF); exact rfl; exact rfl; exact rfl; (first | exact trivial | omega | exact ⟨Int.natCast_nonneg _, Int.ofNat_lt.2 (by assumption)⟩ | decide); clear hF a; intro a hF) | ((with_reducible apply s_load hF hM); exact rfl; exact rfl; (repeat (first | exact List.mem_cons_self | refine List.mem_cons_of_mem _ ?_)); exact rfl; exact rfl; clear hF a; intro a hF) | (with_reducible refine w_skip ?_) | (with_reducible refine w_exit ?_) | (with_reducible refine q_then_x ?_) | (with_reducible refine q_blk_x ?_) | ((with_reducible apply c_false2 hF); exact rfl; (first | with_reducible rfl | (refine congrArg Value.bool ?_; focus (simp; done)))) | ((fail_if_success ((with_reducible refine g_known true hF ?_ ?_); focus exact rfl)); (fail_if_success ((with_reducible refine g_known false hF ?_ ?_); focus exact rfl)); (with_reducible apply g_dec hF); exact rfl; exact rfl; all_goals (clear hF; intro hc hF); all_goals (try (exfalso; omega)))))
    all_goals first | (exfalso; omega) | skip
    (((with_reducible apply s_call (f := 14) hF hM); exact rfl; exact rfl; exact rfl; exact rfl; exact rfl; exact (e2 hM.lt (hM.facts (RdF id x1 (cellsP ds)) (by (repeat (first | with_reducible exact List.mem_cons_self | refine List.mem_cons_of_mem _ ?_)))) (hM.facts (DatF ds) (by (repeat (first | with_reducible exact List.mem_cons_self | refine List.mem_cons_of_mem _ ?_)))) (hM.facts (RdF (Value.int .u8) al l.flatten) (by (repeat (first | with_reducible exact List.mem_cons_self | refine List.mem_cons_of_mem _ ?_))))); clear hF hM a; rintro v w a ⟨x3, y3, x4, y4, rfl, -, us, u1, u2, u3, u4, u5⟩ - hM hF))
    dsimp only at hF u1
    replace hM := hM.addFact u3
    have hul : us.length = ru.length := by rw [← tms_len, u1]
    have e4 := fun {own W} hl => conT_c 38 [] (fun t => !t.r) (fun _ => True) rfl us ru.length hul (by omega) (fun t _ own W hl _ => saves2_c t own W hl) x4 y4 own W hl (Has.pure fun _ => trivial)
    rw [show ((tms us).any fun t => !t.r) = false from List.any_eq_false.2 fun t ht => by rw [u1] at ht; rw [hrefs t ht]; simp] at e4
    have e5 := fun {own W} hl => eqf_c ds dif (by rw [d1, hriu, hdi]) d2 hdw (sok_ps bd1 d1) x1 av ri.length dn y1 cv hdl hdn (by omega) own W hl
    (repeat' (first | (with_reducible refine w_seq ?_) | (with_reducible refine c_region ?_) | (with_reducible refine s_nil ?_) | ((with_reducible apply s_call (f := 37) hF hM); exact rfl; exact rfl; exact rfl; exact rfl; exact rfl; exact (e4 hM.lt (hM.facts (RdF id x4 (cellsT us)) (by (repeat (first | with_reducible exact List.mem_cons_self | refine List.mem_cons_of_mem _ ?_))))); clear hF hM a; rintro v w a rfl - hM hF) | ((with_reducible apply s_call (f := 39) hF hM); exact rfl; exact rfl; exact rfl; exact rfl; exact rfl; exact (e5 hM.lt (hM.facts (RdF id x1 (cellsP ds)) (by (repeat (first | with_reducible exact List.mem_cons_self | refine List.mem_cons_of_mem _ ?_)))) (hM.facts (DatF ds) (by (repeat (first | with_reducible exact List.mem_cons_self | refine List.mem_cons_of_mem _ ?_)))) (hM.facts (RdF id av (cellsP dif)) (by (repeat (first | with_reducible exact List.mem_cons_self | refine List.mem_cons_of_mem _ ?_)))) (hM.facts (DatF dif) (by (repeat (first | with_reducible exact List.mem_cons_self | refine List.mem_cons_of_mem _ ?_))))); clear hF hM a; rintro v w a rfl - hM hF) | ((with_reducible apply s_call (f := 13) hF hM); exact rfl; exact rfl; exact rfl; exact rfl; exact rfl; exact (awake_c _ _ hM.lt); clear hF hM a; rintro v w a rfl - hM hF) | (with_reducible refine q_then_n ?_) | ((with_reducible apply s_pure hF); exact rfl; exact rfl; exact rfl; (first | exact trivial | omega | exact ⟨Int.natCast_nonneg _, Int.ofNat_lt.2 (by assumption)⟩ | decide); clear hF a; intro a hF) | ((with_reducible apply s_load hF hM); exact rfl; exact rfl; (repeat (first | exact List.mem_cons_self | refine List.mem_cons_of_mem _ ?_)); exact rfl; exact rfl; clear hF a; intro a hF) | ((with_reducible apply s_store hF hM); exact rfl; exact rfl; exact rfl; exact rfl; (repeat (first | exact Upd.z | apply Upd.s)); exact rfl; exact rfl; exact rfl; clear hM; intro w hM) | ((with_reducible apply s_alloc hF hM); exact rfl; exact rfl; exact rfl; clear hF hM a; intro b w a hM hF) | (with_reducible refine w_skip ?_) | (with_reducible refine w_ret ?_) | ((with_reducible apply c_false2 hF); exact rfl; (first | with_reducible rfl | (refine congrArg Value.bool ?_; focus (simp; done))))))
    all_goals first | (exfalso; omega) | (apply f_ret Try.results7 hF hM; (repeat (first | exact RL.nil | (apply RL.tmp; exact rfl) | (apply RL.cell; exact rfl; (repeat (first | exact List.mem_cons_self | refine List.mem_cons_of_mem _ ?_)); exact rfl))); refine Ret.mk hM.since ?_; dsimp only [resV])
end Go.Proofs.Ytonelgecjmpbgaa


/- Layer 29: the law of what is recovered. -/
namespace Go.Proofs.Ytonelgecjmpbgaa
open Go.RowKit Go.Shelf D29
namespace D29
theorem StL.cor {ts : List Tok} {xs : List Dat} (h : StL ts xs) : ∀ t ∈ ts, corT t = true := by
  induction h with
  | nil => intro t ht; simp at ht
  | cons h1 h2 ih =>
    intro t ht
    rcases List.mem_cons.1 ht with rfl | ht
    · exact h1.cor
    · exact ih t ht
theorem StL.ref {ts : List Tok} {xs : List Dat} (h : StL ts xs) : ∀ t ∈ ts, t.r = true → ∃ x ∈ xs, t.d = dg x := by
  induction h with
  | nil => intro t ht; simp at ht
  | @cons t0 x0 ts xs h1 h2 ih =>
    intro t ht hr
    rcases List.mem_cons.1 ht with rfl | ht
    · obtain ⟨_, ⟨a, b, c⟩ | ⟨a, b, c⟩⟩ := h1
      · exact ⟨x0, List.mem_cons_self, b⟩
      · rw [hr] at a; cases a
    · obtain ⟨x, hx, e⟩ := ih t ht hr
      exact ⟨x, List.mem_cons_of_mem _ hx, e⟩
theorem StL.nany {ts : List Tok} {xs : List Dat} (h : StL ts xs) : (ts.any fun t => !corT t) = false := by
  rw [List.any_eq_false]
  intro t ht
  rw [h.cor t ht]
  simp
end D29
theorem recovers1_c (d : Int) (t : P) (b : Nat) (own : Nat → Prop) (W : World) (hl : ∀ b, own b → b < W.heap.size) (hb : Has own W (BxF b [.int .u64 d] 54)) : Calls Try.prog 47 ⟨.agg ⟨itC t⟩ :: [.pointer (some ⟨b, 0, none⟩)]⟩ W (Ret W fun v _ => v = .bool (decide (t.1.d = d))) := by
  have hM := (Mm.start hl).known hb
  refine f_start Try.func47 rfl Try.ntmps47 rfl rfl ?_; intro a hF
  unfold itC at *
  (repeat (first | (with_reducible refine w_seq ?_) | (with_reducible refine c_region ?_) | (with_reducible refine s_nil ?_) | (with_reducible refine q_then_n ?_) | ((with_reducible apply s_pure hF); exact rfl; exact rfl; exact rfl; (first | exact trivial | omega | exact ⟨Int.natCast_nonneg _, Int.ofNat_lt.2 (by assumption)⟩ | decide); clear hF a; intro a hF) | ((with_reducible apply s_load hF hM); exact rfl; exact rfl; (repeat (first | exact List.mem_cons_self | refine List.mem_cons_of_mem _ ?_)); exact rfl; exact rfl; clear hF a; intro a hF) | ((with_reducible apply s_loadK hF hM); exact rfl; exact rfl; (repeat (first | exact List.mem_cons_self | refine List.mem_cons_of_mem _ ?_)); exact rfl; exact rfl; clear hF a; intro a hF) | ((with_reducible apply s_box hF hM); exact rfl; exact rfl; exact rfl; exact rfl; clear hF hM a; intro b w a hM hF) | (with_reducible refine w_ret ?_)))
  (apply f_ret Try.results47 hF hM; (repeat (first | exact RL.nil | (apply RL.tmp; exact rfl) | (apply RL.cell; exact rfl; (repeat (first | exact List.mem_cons_self | refine List.mem_cons_of_mem _ ?_)); exact rfl))); refine Ret.mk hM.since ?_; dsimp only [resV])
set_option maxRecDepth 20000 in
set_option maxHeartbeats 16000000 in
theorem recovers29_c (cp cq : Int) (ps qs : List P) (a0 a1 : Option Addr) (c0 c1 : Nat) (hc0 : ps.length ≤ c0) (hc1 : qs.length ≤ c1) (hpw : DatW ps) (hqw : DatW qs) (W : World) (h1 : Has (fun _ => False) W (RdF id a0 (cellsP ps))) (h2 : Has (fun _ => False) W (DatF ps)) (h3 : Has (fun _ => False) W (RdF id a1 (cellsP qs))) (h4 : Has (fun _ => False) W (DatF qs)) (l : Dat) (hl8 : W8 l) (hlb : By8 l) (al : Option Addr) (cl : Nat) (hcl : l.length ≤ cl) (hx : Has (fun _ => False) W (RdF (Value.int .u8) al l.flatten)) :
    Calls Try.prog 9 ⟨[.agg #[.int .i64 cp, .slice a0 ps.length c0], .agg #[.int .i64 cq, .slice a1 qs.length c1], .slice al l.length cl]⟩ W (Ret W fun v _ => v = .bool true) := by
  have hM := (((((Mm.start (own := fun _ => False) (w := W) (fun _ h => h.elim)).known hx).known h4).known h3).known h2).known h1
  refine f_start Try.func9 rfl Try.ntmps9 rfl rfl ?_; intro a hF
  (repeat (first | (with_reducible refine w_seq ?_) | (with_reducible refine c_region ?_) | (with_reducible refine s_nil ?_) | (with_reducible refine q_then_n ?_) | ((with_reducible apply s_pure hF); exact rfl; exact rfl; exact rfl; (first | exact trivial | omega | exact ⟨Int.natCast_nonneg _, Int.ofNat_lt.2 (by assumption)⟩ | decide); clear hF a; intro a hF) | ((with_reducible apply s_load hF hM); exact rfl; exact rfl; (repeat (first | exact List.mem_cons_self | refine List.mem_cons_of_mem _ ?_)); exact rfl; exact rfl; clear hF a; intro a hF) | ((with_reducible apply s_box hF hM); exact rfl; exact rfl; exact rfl; exact rfl; clear hF hM a; intro b w a hM hF)))
  rename_i b3 _
  generalize b = b4 at *
  (((with_reducible apply s_call (f := 12) hF hM); exact rfl; exact rfl; exact rfl; exact rfl; exact rfl; exact (Few_c cp ps a0 _ c0 rfl _ _ hM.lt (hM.facts (RdF id a0 (cellsP ps)) (by (repeat (first | with_reducible exact List.mem_cons_self | refine List.mem_cons_of_mem _ ?_))))); clear hF hM a; rintro v w a ⟨f, rfl, hf⟩ - hM hF))
  cases f with
  | false =>
    (repeat' (first | (with_reducible refine w_seq ?_) | (with_reducible refine c_region ?_) | (with_reducible refine s_nil ?_) | ((with_reducible apply s_call (f := 13) hF hM); exact rfl; exact rfl; exact rfl; exact rfl; exact rfl; exact (awake_c _ _ hM.lt); clear hF hM a; rintro v w a rfl - hM hF) | (with_reducible refine q_then_n ?_) | ((with_reducible apply s_pure hF); exact rfl; exact rfl; exact rfl; (first | exact trivial | omega | exact ⟨Int.natCast_nonneg _, Int.ofNat_lt.2 (by assumption)⟩ | decide); clear hF a; intro a hF) | (with_reducible refine w_ret ?_) | (with_reducible refine q_then_r ?_) | ((with_reducible apply c_true2 hF); exact rfl; (first | with_reducible rfl | (refine congrArg Value.bool ?_; focus (simp; done)))) | ((with_reducible apply s_skip hF); exact rfl; exact rfl; clear hF a; intro a hF)))
    (apply f_ret Try.results9 hF hM; (repeat (first | exact RL.nil | (apply RL.tmp; exact rfl) | (apply RL.cell; exact rfl; (repeat (first | exact List.mem_cons_self | refine List.mem_cons_of_mem _ ?_)); exact rfl))); refine Ret.mk hM.since ?_; dsimp only [resV])
  | true =>
  obtain ⟨hl40, hx40⟩ := hf rfl
  (repeat (first | ((with_reducible apply s_pure hF); exact rfl; exact rfl; exact rfl; (first | exact trivial | omega | exact ⟨Int.natCast_nonneg _, Int.ofNat_lt.2 (by assumption)⟩ | decide); clear hF a; intro a hF) | ((with_reducible apply s_load hF hM); exact rfl; exact rfl; (repeat (first | exact List.mem_cons_self | refine List.mem_cons_of_mem _ ?_)); exact rfl; exact rfl; clear hF a; intro a hF)))
  (((with_reducible apply s_call (f := 12) hF hM); exact rfl; exact rfl; exact rfl; exact rfl; exact rfl; exact (Few_c cq qs a1 _ c1 rfl _ _ hM.lt (hM.facts (RdF id a1 (cellsP qs)) (by (repeat (first | with_reducible exact List.mem_cons_self | refine List.mem_cons_of_mem _ ?_))))); clear hF hM a; rintro v w a ⟨f, rfl, hf⟩ - hM hF))
  cases f with
  | false =>
    (repeat' (first | (with_reducible refine w_seq ?_) | (with_reducible refine c_region ?_) | (with_reducible refine s_nil ?_) | ((with_reducible apply s_call (f := 13) hF hM); exact rfl; exact rfl; exact rfl; exact rfl; exact rfl; exact (awake_c _ _ hM.lt); clear hF hM a; rintro v w a rfl - hM hF) | (with_reducible refine q_then_n ?_) | ((with_reducible apply s_pure hF); exact rfl; exact rfl; exact rfl; (first | exact trivial | omega | exact ⟨Int.natCast_nonneg _, Int.ofNat_lt.2 (by assumption)⟩ | decide); clear hF a; intro a hF) | (with_reducible refine w_ret ?_) | (with_reducible refine q_then_r ?_) | ((with_reducible apply c_true2 hF); exact rfl; (first | with_reducible rfl | (refine congrArg Value.bool ?_; focus (simp; done)))) | ((with_reducible apply s_skip hF); exact rfl; exact rfl; clear hF a; intro a hF)))
    (apply f_ret Try.results9 hF hM; (repeat (first | exact RL.nil | (apply RL.tmp; exact rfl) | (apply RL.cell; exact rfl; (repeat (first | exact List.mem_cons_self | refine List.mem_cons_of_mem _ ?_)); exact rfl))); refine Ret.mk hM.since ?_; dsimp only [resV])
  | true =>
  obtain ⟨hq40, hy40⟩ := hf rfl
  by_cases hl60 : 60 < l.length
  · (repeat' (first | (with_reducible refine w_seq ?_) | (with_reducible refine c_region ?_) | (with_reducible refine s_nil ?_) | ((with_reducible apply s_call (f := 13) hF hM); exact rfl; exact rfl; exact rfl; exact rfl; exact rfl; exact (awake_c _ _ hM.lt); clear hF hM a; rintro v w a rfl - hM hF) | (with_reducible refine q_then_n ?_) | ((with_reducible apply s_pure hF); exact rfl; exact rfl; exact rfl; (first | exact trivial | omega | exact ⟨Int.natCast_nonneg _, Int.ofNat_lt.2 (by assumption)⟩ | decide); clear hF a; intro a hF) | (with_reducible refine w_ret ?_) | (with_reducible refine q_then_r ?_) | ((with_reducible apply c_true2 hF); exact rfl; (first | with_reducible rfl | (refine congrArg Value.bool ?_; focus (simp; done)))) | ((with_reducible apply s_skip hF); exact rfl; exact rfl; clear hF a; intro a hF) | ((fail_if_success ((with_reducible refine g_known true hF ?_ ?_); focus exact rfl)); (fail_if_success ((with_reducible refine g_known false hF ?_ ?_); focus exact rfl)); (with_reducible apply g_dec hF); exact rfl; exact rfl; all_goals (clear hF; intro hc hF); all_goals (try (exfalso; omega)))))
    (apply f_ret Try.results9 hF hM; (repeat (first | exact RL.nil | (apply RL.tmp; exact rfl) | (apply RL.cell; exact rfl; (repeat (first | exact List.mem_cons_self | refine List.mem_cons_of_mem _ ?_)); exact rfl))); refine Ret.mk hM.since ?_; dsimp only [resV])
  have hpx : ∀ p ∈ ps, p.1.x.length ≤ 100000 := fun p hp => Nat.le_trans (hx40 p hp) (by omega)
  have hqx : ∀ p ∈ qs, p.1.x.length ≤ 100000 := fun p hp => Nat.le_trans (hy40 p hp) (by omega)
  have e1 := fun {own W} hl h1 h2 => Check29_c cp ps a0 c0 ps.length rfl (by omega) hpw hpx own W hl h1 h2
  have e2 := fun {own W} hl h1 h2 => Check29_c cq qs a1 c1 qs.length rfl (by omega) hqw hqx own W hl h1 h2
  by_cases hck : check ⟨cp, ims ps⟩ = 0
  case neg =>
    generalize check ⟨cp, ims ps⟩ = e at *
    (repeat' (first | ((with_reducible apply s_pure hF); exact rfl; exact rfl; exact rfl; (first | exact trivial | omega | exact ⟨Int.natCast_nonneg _, Int.ofNat_lt.2 (by assumption)⟩ | decide); clear hF a; intro a hF) | ((with_reducible apply s_load hF hM); exact rfl; exact rfl; (repeat (first | exact List.mem_cons_self | refine List.mem_cons_of_mem _ ?_)); exact rfl; exact rfl; clear hF a; intro a hF) | ((fail_if_success ((with_reducible refine g_known true hF ?_ ?_); focus exact rfl)); (fail_if_success ((with_reducible refine g_known false hF ?_ ?_); focus exact rfl)); (with_reducible apply g_dec hF); exact rfl; exact rfl; all_goals (clear hF; intro hc hF); all_goals (try (exfalso; omega)))))
    (((with_reducible apply s_call (f := 24) hF hM); exact rfl; exact rfl; exact rfl; exact rfl; exact rfl; exact (e1 hM.lt (hM.facts (RdF id a0 (cellsP ps)) (by (repeat (first | with_reducible exact List.mem_cons_self | refine List.mem_cons_of_mem _ ?_)))) (hM.facts (DatF ps) (by (repeat (first | with_reducible exact List.mem_cons_self | refine List.mem_cons_of_mem _ ?_))))); clear hF hM a; rintro v w a rfl - hM hF))
    (repeat' (first | (with_reducible refine w_seq ?_) | (with_reducible refine c_region ?_) | (with_reducible refine s_nil ?_) | ((with_reducible apply s_call (f := 13) hF hM); exact rfl; exact rfl; exact rfl; exact rfl; exact rfl; exact (awake_c _ _ hM.lt); clear hF hM a; rintro v w a rfl - hM hF) | (with_reducible refine q_then_n ?_) | ((with_reducible apply s_pure hF); exact rfl; exact rfl; exact rfl; (first | exact trivial | omega | exact ⟨Int.natCast_nonneg _, Int.ofNat_lt.2 (by assumption)⟩ | decide); clear hF a; intro a hF) | (with_reducible refine w_ret ?_) | (with_reducible refine q_then_r ?_) | ((with_reducible apply c_true2 hF); exact rfl; (first | with_reducible rfl | (refine congrArg Value.bool ?_; focus (simp; done)))) | ((with_reducible apply s_skip hF); exact rfl; exact rfl; clear hF a; intro a hF) | ((fail_if_success ((with_reducible refine g_known true hF ?_ ?_); focus exact rfl)); (fail_if_success ((with_reducible refine g_known false hF ?_ ?_); focus exact rfl)); (with_reducible apply g_dec hF); exact rfl; exact rfl; all_goals (clear hF; intro hc hF); all_goals (try (exfalso; omega)))))
    all_goals first | (exfalso; omega) | (apply f_ret Try.results9 hF hM; (repeat (first | exact RL.nil | (apply RL.tmp; exact rfl) | (apply RL.cell; exact rfl; (repeat (first | exact List.mem_cons_self | refine List.mem_cons_of_mem _ ?_)); exact rfl))); refine Ret.mk hM.since ?_; dsimp only [resV])
  rw [hck] at e1
  (repeat' (first | ((with_reducible apply s_pure hF); exact rfl; exact rfl; exact rfl; (first | exact trivial | omega | exact ⟨Int.natCast_nonneg _, Int.ofNat_lt.2 (by assumption)⟩ | decide); clear hF a; intro a hF) | ((with_reducible apply s_load hF hM); exact rfl; exact rfl; (repeat (first | exact List.mem_cons_self | refine List.mem_cons_of_mem _ ?_)); exact rfl; exact rfl; clear hF a; intro a hF) | ((fail_if_success ((with_reducible refine g_known true hF ?_ ?_); focus exact rfl)); (fail_if_success ((with_reducible refine g_known false hF ?_ ?_); focus exact rfl)); (with_reducible apply g_dec hF); exact rfl; exact rfl; all_goals (clear hF; intro hc hF); all_goals (try (exfalso; omega)))))
  (((with_reducible apply s_call (f := 24) hF hM); exact rfl; exact rfl; exact rfl; exact rfl; exact rfl; exact (e1 hM.lt (hM.facts (RdF id a0 (cellsP ps)) (by (repeat (first | with_reducible exact List.mem_cons_self | refine List.mem_cons_of_mem _ ?_)))) (hM.facts (DatF ps) (by (repeat (first | with_reducible exact List.mem_cons_self | refine List.mem_cons_of_mem _ ?_))))); clear hF hM a; rintro v w a rfl - hM hF))
  by_cases hckb : check ⟨cq, ims qs⟩ = 0
  case neg =>
    generalize check ⟨cq, ims qs⟩ = e at *
    (repeat' (first | ((with_reducible apply s_pure hF); exact rfl; exact rfl; exact rfl; (first | exact trivial | omega | exact ⟨Int.natCast_nonneg _, Int.ofNat_lt.2 (by assumption)⟩ | decide); clear hF a; intro a hF) | ((with_reducible apply s_load hF hM); exact rfl; exact rfl; (repeat (first | exact List.mem_cons_self | refine List.mem_cons_of_mem _ ?_)); exact rfl; exact rfl; clear hF a; intro a hF)))
    (((with_reducible apply s_call (f := 24) hF hM); exact rfl; exact rfl; exact rfl; exact rfl; exact rfl; exact (e2 hM.lt (hM.facts (RdF id a1 (cellsP qs)) (by (repeat (first | with_reducible exact List.mem_cons_self | refine List.mem_cons_of_mem _ ?_)))) (hM.facts (DatF qs) (by (repeat (first | with_reducible exact List.mem_cons_self | refine List.mem_cons_of_mem _ ?_))))); clear hF hM a; rintro v w a rfl - hM hF))
    (repeat' (first | (with_reducible refine w_seq ?_) | (with_reducible refine c_region ?_) | (with_reducible refine s_nil ?_) | ((with_reducible apply s_call (f := 13) hF hM); exact rfl; exact rfl; exact rfl; exact rfl; exact rfl; exact (awake_c _ _ hM.lt); clear hF hM a; rintro v w a rfl - hM hF) | (with_reducible refine q_then_n ?_) | ((with_reducible apply s_pure hF); exact rfl; exact rfl; exact rfl; (first | exact trivial | omega | exact ⟨Int.natCast_nonneg _, Int.ofNat_lt.2 (by assumption)⟩ | decide); clear hF a; intro a hF) | (with_reducible refine w_ret ?_) | (with_reducible refine q_then_r ?_) | ((with_reducible apply c_true2 hF); exact rfl; (first | with_reducible rfl | (refine congrArg Value.bool ?_; focus (simp; done)))) | ((with_reducible apply s_skip hF); exact rfl; exact rfl; clear hF a; intro a hF) | ((fail_if_success ((with_reducible refine g_known true hF ?_ ?_); focus exact rfl)); (fail_if_success ((with_reducible refine g_known false hF ?_ ?_); focus exact rfl)); (with_reducible apply g_dec hF); exact rfl; exact rfl; all_goals (clear hF; intro hc hF); all_goals (try (exfalso; omega)))))
    all_goals first | (exfalso; omega) | (apply f_ret Try.results9 hF hM; (repeat (first | exact RL.nil | (apply RL.tmp; exact rfl) | (apply RL.cell; exact rfl; (repeat (first | exact List.mem_cons_self | refine List.mem_cons_of_mem _ ?_)); exact rfl))); refine Ret.mk hM.since ?_; dsimp only [resV])
  rw [hckb] at e2
  (repeat' (first | ((with_reducible apply s_pure hF); exact rfl; exact rfl; exact rfl; (first | exact trivial | omega | exact ⟨Int.natCast_nonneg _, Int.ofNat_lt.2 (by assumption)⟩ | decide); clear hF a; intro a hF) | ((with_reducible apply s_load hF hM); exact rfl; exact rfl; (repeat (first | exact List.mem_cons_self | refine List.mem_cons_of_mem _ ?_)); exact rfl; exact rfl; clear hF a; intro a hF)))
  (((with_reducible apply s_call (f := 24) hF hM); exact rfl; exact rfl; exact rfl; exact rfl; exact rfl; exact (e2 hM.lt (hM.facts (RdF id a1 (cellsP qs)) (by (repeat (first | with_reducible exact List.mem_cons_self | refine List.mem_cons_of_mem _ ?_)))) (hM.facts (DatF qs) (by (repeat (first | with_reducible exact List.mem_cons_self | refine List.mem_cons_of_mem _ ?_))))); clear hF hM a; rintro v w a rfl - hM hF))
  by_cases hcc : cp = cq
  case neg =>
    (repeat' (first | (with_reducible refine w_seq ?_) | (with_reducible refine c_region ?_) | (with_reducible refine s_nil ?_) | ((with_reducible apply s_call (f := 13) hF hM); exact rfl; exact rfl; exact rfl; exact rfl; exact rfl; exact (awake_c _ _ hM.lt); clear hF hM a; rintro v w a rfl - hM hF) | (with_reducible refine q_then_n ?_) | ((with_reducible apply s_pure hF); exact rfl; exact rfl; exact rfl; (first | exact trivial | omega | exact ⟨Int.natCast_nonneg _, Int.ofNat_lt.2 (by assumption)⟩ | decide); clear hF a; intro a hF) | ((with_reducible apply s_load hF hM); exact rfl; exact rfl; (repeat (first | exact List.mem_cons_self | refine List.mem_cons_of_mem _ ?_)); exact rfl; exact rfl; clear hF a; intro a hF) | (with_reducible refine w_ret ?_) | (with_reducible refine q_then_r ?_) | ((with_reducible apply c_dec hF); exact rfl; all_goals intro hc; all_goals (try (exfalso; omega)))))
    (apply f_ret Try.results9 hF hM; (repeat (first | exact RL.nil | (apply RL.tmp; exact rfl) | (apply RL.cell; exact rfl; (repeat (first | exact List.mem_cons_self | refine List.mem_cons_of_mem _ ?_)); exact rfl))); refine Ret.mk hM.since ?_; dsimp only [resV])
  subst hcc
  have hok := check_ok.1 hck
  have hokb := check_ok.1 hckb
  obtain ⟨N, hN⟩ : ∃ N : Nat, (1 : Int) + (l.length : Int) % 3 = N := ⟨1 + l.length % 3, by omega⟩
  have hN1 : 1 ≤ N ∧ N ≤ 4096 := by omega
  (repeat' (first | (with_reducible refine w_seq ?_) | (with_reducible refine c_region ?_) | (with_reducible refine s_nil ?_) | (with_reducible refine q_then_n ?_) | ((with_reducible apply s_pure hF); exact rfl; exact rfl; exact rfl; (first | exact trivial | omega | exact ⟨Int.natCast_nonneg _, Int.ofNat_lt.2 (by assumption)⟩ | decide); clear hF a; intro a hF) | ((with_reducible apply s_load hF hM); exact rfl; exact rfl; (repeat (first | exact List.mem_cons_self | refine List.mem_cons_of_mem _ ?_)); exact rfl; exact rfl; clear hF a; intro a hF) | ((with_reducible apply s_lit hF hM); exact rfl; exact rfl; exact rfl; exact rfl; clear hF hM a; intro bl w a hM hF) | (with_reducible refine w_skip ?_) | ((with_reducible apply c_false2 hF); exact rfl; (first | with_reducible rfl | (refine congrArg Value.bool ?_; focus (simp; done))))))
  all_goals first | (exfalso; omega) | skip
  rw [hN] at hF
  obtain ⟨S, hS⟩ : ∃ S : List SL, S = [(cp, ps, a0, c0), (cp, qs, a1, c1)] := ⟨_, rfl⟩
  have hSm : ∀ s ∈ S, s = (cp, ps, a0, c0) ∨ s = (cp, qs, a1, c1) := fun s hs => by rw [hS] at hs; simpa using hs
  have hSw : ∀ s ∈ S, DatW s.2.1 ∧ s.2.1.length ≤ 4096 := fun s hs => by
    rcases hSm s hs with rfl | rfl
    · exact ⟨hpw, by show ps.length ≤ 4096; omega⟩
    · exact ⟨hqw, by show qs.length ≤ 4096; omega⟩
  have hSl : S.length = 2 := by rw [hS]; rfl
  replace hM := hM.freeze
  replace hM := hM.addFact (Has.lit (enc := id) (hM.facts _ List.mem_cons_self) (S.map stC).flatten (by rw [hS]; rfl))
  replace hM := hM.addFact (StF.all (S := S) fun s hs => by
    rcases hSm s hs with rfl | rfl
    · exact ⟨hM.facts (RdF id a0 (cellsP ps)) (by (repeat (first | with_reducible exact List.mem_cons_self | refine List.mem_cons_of_mem _ ?_))), hM.facts (DatF ps) (by (repeat (first | with_reducible exact List.mem_cons_self | refine List.mem_cons_of_mem _ ?_)))⟩
    · exact ⟨hM.facts (RdF id a1 (cellsP qs)) (by (repeat (first | with_reducible exact List.mem_cons_self | refine List.mem_cons_of_mem _ ?_))), hM.facts (DatF qs) (by (repeat (first | with_reducible exact List.mem_cons_self | refine List.mem_cons_of_mem _ ?_)))⟩)
  (((with_reducible apply s_call (f := 33) hF hM); exact rfl; exact rfl; exact rfl; exact rfl; exact rfl; exact (lchunks_c l hl8 hlb al cl l.length rfl (by omega) hcl N hN1 S 2 hSl (by omega) hSw (some ⟨bl, 0, none⟩) 2 _ _ hM.lt (hM.facts (RdF (Value.int .u8) al l.flatten) (by (repeat (first | with_reducible exact List.mem_cons_self | refine List.mem_cons_of_mem _ ?_)))) (hM.facts (RdF id (some ⟨bl, 0, none⟩) (S.map stC).flatten) (by (repeat (first | with_reducible exact List.mem_cons_self | refine List.mem_cons_of_mem _ ?_)))) (hM.facts (StF S) (by (repeat (first | with_reducible exact List.mem_cons_self | refine List.mem_cons_of_mem _ ?_))))); clear hF hM a; rintro v w a ⟨xa, xc, rfl, rs, q1, q2, q3, q4, q5⟩ - hM hF))
  replace hM := (hM.addFact q3).addFact q4
  have hSf : ((S.map fun s => ims s.2.1).flatten) = ims ps ++ ims qs := by rw [hS]; simp
  have hal := allI_len N l S
  rw [hSf, List.length_append, ims_len, ims_len] at hal
  have hax := ims_x q1 (allI_x (l := l) (S := S) hN1 (q := 100000) (by omega) (fun s hs => by
    rcases hSm s hs with rfl | rfl
    · exact hpx
    · exact hqx))
  have hrl : rs.length = (allI N l S).length := by rw [← ims_len, q1]
  (repeat (first | (with_reducible refine w_seq ?_) | (with_reducible refine c_region ?_) | (with_reducible refine s_nil ?_) | (with_reducible refine q_then_n ?_) | ((with_reducible apply s_pure hF); exact rfl; exact rfl; exact rfl; (first | exact trivial | omega | exact ⟨Int.natCast_nonneg _, Int.ofNat_lt.2 (by assumption)⟩ | decide); clear hF a; intro a hF)))
  (((with_reducible apply s_call (f := 32) hF hM); exact rfl; exact rfl; exact rfl; exact rfl; exact rfl; exact (collide_c rs xa xc _ hrl (by omega) q2 hax q5 _ _ hM.lt (hM.facts (RdF id xa (cellsP rs)) (by (repeat (first | with_reducible exact List.mem_cons_self | refine List.mem_cons_of_mem _ ?_)))) (hM.facts (DatF rs) (by (repeat (first | with_reducible exact List.mem_cons_self | refine List.mem_cons_of_mem _ ?_))))); clear hF hM a; rintro v w a ⟨f, rfl, hf⟩ - hM hF))
  cases f with
  | true =>
    (repeat' (first | (with_reducible refine w_seq ?_) | (with_reducible refine c_region ?_) | (with_reducible refine s_nil ?_) | ((with_reducible apply s_call (f := 13) hF hM); exact rfl; exact rfl; exact rfl; exact rfl; exact rfl; exact (awake_c _ _ hM.lt); clear hF hM a; rintro v w a rfl - hM hF) | (with_reducible refine q_then_n ?_) | ((with_reducible apply s_pure hF); exact rfl; exact rfl; exact rfl; (first | exact trivial | omega | exact ⟨Int.natCast_nonneg _, Int.ofNat_lt.2 (by assumption)⟩ | decide); clear hF a; intro a hF) | (with_reducible refine w_ret ?_) | (with_reducible refine q_then_r ?_) | ((with_reducible apply c_true2 hF); exact rfl; (first | with_reducible rfl | (refine congrArg Value.bool ?_; focus (simp; done))))))
    (apply f_ret Try.results9 hF hM; (repeat (first | exact RL.nil | (apply RL.tmp; exact rfl) | (apply RL.cell; exact rfl; (repeat (first | exact List.mem_cons_self | refine List.mem_cons_of_mem _ ?_)); exact rfl))); refine Ret.mk hM.since ?_; dsimp only [resV])
  | false =>
  replace hf := hf rfl
  rw [q1] at hf
  have hall : ∀ i ∈ allI N l S, isCh i.x = true ∧ i.d = dg i.x := by
    intro i hi
    unfold allI at hi
    rw [hSf] at hi
    rcases List.mem_append.1 hi with hi | hi
    · obtain ⟨x, hx, rfl⟩ := List.mem_map.1 hi
      exact ⟨parts_ch hN1.1 hN1.2 x hx, rfl⟩
    · rcases List.mem_append.1 hi with hi | hi
      · exact ⟨hok.its.ch i hi, hok.its.dg i hi⟩
      · exact ⟨hokb.its.ch i hi, hokb.its.dg i hi⟩
  have hmp : ∀ x ∈ parts N l, mkI x ∈ allI N l S := fun x hx => List.mem_append_left _ (List.mem_map.2 ⟨x, hx, rfl⟩)
  have hmb : ∀ i ∈ ims qs, i ∈ allI N l S := fun i hi => by
    unfold allI
    rw [hSf]
    exact List.mem_append_right _ (List.mem_append_right _ hi)
  obtain ⟨PP, hPP⟩ : ∃ PP : Dat → Prop, PP = fun x => ∃ i ∈ allI N l S, i.x = x := ⟨_, rfl⟩
  have hno : NoC PP := by
    rw [hPP]
    rintro x y ⟨i, hi, rfl⟩ ⟨j, hj, rfl⟩ e
    exact hf i hi j hj (by rw [(hall i hi).2, (hall j hj).2, e])
  have hPi : ∀ i ∈ allI N l S, PP i.x := fun i hi => by rw [hPP]; exact ⟨i, hi, rfl⟩
  have hPx : ∀ x ∈ parts N l, PP x := fun x hx => hPi (mkI x) (hmp x hx)
  have hPb : ∀ i ∈ ims qs, i.d = dg i.x ∧ PP i.x := fun i hi => ⟨hokb.its.dg i hi, hPi i (hmb i hi)⟩
  clear hf hmb hPP q3 q4 q5
  have henc := enc_ok hck hN1.1 hN1.2 l
  obtain ⟨bd1, bd2, bd3⟩ := enc_bd henc
  have hstl : StL (encI cp (parts N l) (ims ps)).2 (parts N l) := enc_stl (parts_ch hN1.1 hN1.2)
  have hpf : (parts N l).flatten = l := parts_flat hN1.1
  have e2 := fun {own W} hl h1 h2 hx => Encode29_c cp ps a0 c0 ps.length rfl (by omega) hpw hpx own W hl h1 h2 l hl8 hlb al cl l.length rfl (by omega) hcl hx (N : Int)
  obtain ⟨⟨ri, rt⟩, hr⟩ : ∃ r, encI cp (parts N l) (ims ps) = r := ⟨_, rfl⟩
  rw [show encR ⟨cp, ims ps⟩ l (N : Int) = .ok (ri, rt) by rw [← hr]; exact henc] at e2
  rw [show encI (⟨cp, ims ps⟩ : St).cap (parts N l) (⟨cp, ims ps⟩ : St).items = (ri, rt) from hr] at bd1 bd2 bd3
  rw [hr] at hstl
  dsimp only at bd1 bd2 bd3 hstl
  (repeat' (first | (with_reducible refine w_seq ?_) | (with_reducible refine c_region ?_) | (with_reducible refine s_nil ?_) | (with_reducible refine q_then_n ?_) | ((with_reducible apply s_pure hF); exact rfl; exact rfl; exact rfl; (first | exact trivial | omega | exact ⟨Int.natCast_nonneg _, Int.ofNat_lt.2 (by assumption)⟩ | decide); clear hF a; intro a hF) | ((with_reducible apply s_load hF hM); exact rfl; exact rfl; (repeat (first | exact List.mem_cons_self | refine List.mem_cons_of_mem _ ?_)); exact rfl; exact rfl; clear hF a; intro a hF) | (with_reducible refine w_skip ?_) | ((with_reducible apply c_false2 hF); exact rfl; (first | with_reducible rfl | (refine congrArg Value.bool ?_; focus (simp; done))))))
  (((with_reducible apply s_call (f := 14) hF hM); exact rfl; exact rfl; exact rfl; exact rfl; exact rfl; exact (e2 hM.lt (hM.facts (RdF id a0 (cellsP ps)) (by (repeat (first | with_reducible exact List.mem_cons_self | refine List.mem_cons_of_mem _ ?_)))) (hM.facts (DatF ps) (by (repeat (first | with_reducible exact List.mem_cons_self | refine List.mem_cons_of_mem _ ?_)))) (hM.facts (RdF (Value.int .u8) al l.flatten) (by (repeat (first | with_reducible exact List.mem_cons_self | refine List.mem_cons_of_mem _ ?_))))); clear hF hM a; rintro v w a ⟨x1, y1, x2, y2, rfl, -, us, u1, u2, u3, u4, u5⟩ - hM hF))
  dsimp only at hF u1
  replace hM := (hM.addFact u3).addFact u4
  have hul : us.length = rt.length := by rw [← tms_len, u1]
  have htx := toks_ps bd2 u1
  have e3 := fun {own W} hl h1 h2 hx1 hx2 => Missing29_c cp qs a1 c1 qs.length rfl (by omega) hqw hqx own W hl h1 h2 us u2 htx x2 y2 rt.length hul (by omega) hx1 hx2
  obtain ⟨ms, hms⟩ : ∃ ms, misI cp rt ((ims qs).map (·.d)) [] = ms := ⟨_, rfl⟩
  rw [show misR ⟨cp, ims qs⟩ (tms us) = ms by rw [u1, misR_ok hckb hstl.nany]; exact hms] at e3
  have hmsd : ∀ d ∈ ms, ∃ i ∈ allI N l S, i.d = d := fun d hd => by
    rw [← hms] at hd
    rcases mis_ref hd with h | ⟨t, ht, hr, e⟩
    · simp at h
    · obtain ⟨x, hx, e2⟩ := hstl.ref t ht hr
      exact ⟨mkI x, hmp x hx, by rw [← e, e2]; rfl⟩
  have hmsl : ms.length ≤ 100000 := by
    have := misR_len (c := ⟨cp, ims qs⟩) (l := rt)
    rw [misR_ok hckb hstl.nany] at this
    have h2 : ms.length ≤ rt.length := by rw [← hms]; exact this
    omega
  clear e1 e2 u3 u4 u5
  (repeat (first | (with_reducible refine w_seq ?_) | (with_reducible refine c_region ?_) | (with_reducible refine s_nil ?_) | (with_reducible refine q_then_n ?_) | ((with_reducible apply s_pure hF); exact rfl; exact rfl; exact rfl; (first | exact trivial | omega | exact ⟨Int.natCast_nonneg _, Int.ofNat_lt.2 (by assumption)⟩ | decide); clear hF a; intro a hF) | ((with_reducible apply s_load hF hM); exact rfl; exact rfl; (repeat (first | exact List.mem_cons_self | refine List.mem_cons_of_mem _ ?_)); exact rfl; exact rfl; clear hF a; intro a hF) | ((with_reducible apply s_store hF hM); exact rfl; exact rfl; exact rfl; exact rfl; (repeat (first | exact Upd.z | apply Upd.s)); exact rfl; exact rfl; exact rfl; clear hM; intro w hM) | ((with_reducible apply s_alloc hF hM); exact rfl; exact rfl; exact rfl; clear hF hM a; intro b w a hM hF) | (with_reducible refine w_skip ?_) | ((with_reducible apply c_false2 hF); exact rfl; (first | with_reducible rfl | (refine congrArg Value.bool ?_; focus (simp; done))))))
  generalize b = b9 at *
  (((with_reducible apply s_call (f := 42) hF hM); exact rfl; exact rfl; exact rfl; exact rfl; exact rfl; exact (e3 hM.lt (hM.facts (RdF id a1 (cellsP qs)) (by (repeat (first | with_reducible exact List.mem_cons_self | refine List.mem_cons_of_mem _ ?_)))) (hM.facts (DatF qs) (by (repeat (first | with_reducible exact List.mem_cons_self | refine List.mem_cons_of_mem _ ?_)))) (hM.facts (RdF id x2 (cellsT us)) (by (repeat (first | with_reducible exact List.mem_cons_self | refine List.mem_cons_of_mem _ ?_)))) (hM.facts (DatF (tP us)) (by (repeat (first | with_reducible exact List.mem_cons_self | refine List.mem_cons_of_mem _ ?_))))); clear hF hM a; rintro v w a ⟨am, cm, rfl, hmr⟩ - hM hF))
  replace hM := hM.addFact hmr
  (repeat (first | (with_reducible refine s_nil ?_) | (with_reducible refine q_then_n ?_) | ((with_reducible apply s_pure hF); exact rfl; exact rfl; exact rfl; (first | exact trivial | omega | exact ⟨Int.natCast_nonneg _, Int.ofNat_lt.2 (by assumption)⟩ | decide); clear hF a; intro a hF) | (with_reducible refine w_block ?_)))
  have hrow := (hM.nilRow 57 2).addFact (f := DatF []) (Has.pure fun _ p hp => by simp at hp)
  refine c_loop (m := ms.length) (fun m a w' => ∃ (k : Nat) (fd : List P) (fv : Value), m + k = ms.length ∧ fd.length = k ∧ (ims fd).map (·.d) = ms.take k ∧ (∀ p ∈ fd, p ∈ rs) ∧
    Fr 129 [] [(80, .int .i64 k), (79, .int .i64 ms.length), (78, .slice am ms.length cm), (12, fv), (10, .slice x2 rt.length y2), (8, .slice xa (allI N l S).length xc), (4, .pointer (some ⟨b4, 0, none⟩)), (2, .slice al l.length cl)] a ∧
    Mm (fun _ => False) W [⟨b4, ⟨[.int .i64 cp, .slice a1 qs.length c1]⟩, 24⟩] [⟨57, 2, fv, k, cellsP fd⟩] [DatF fd, RdF (Value.int .u64) am ms, RdF id xa (rs.map itC).flatten, DatF rs, RdF id x2 (cellsT us), DatF (tP us), RdF id a1 (cellsP qs), DatF qs, RdF (Value.int .u8) al l.flatten] w')
    ⟨0, [], _, by omega, rfl, rfl, fun p hp => by simp at hp, hF.sub (by repeat (first | exact Sub.nil | refine Sub.cons rfl (by first | with_reducible rfl | (refine congrArg (Value.int _) ?_; omega) | exact rfl) ?_)), hrow.sub (.cons _ (.cons_cons _ (.cons _ .slnil))) (.refl _) (fun f hf => by simp only [List.mem_cons, List.not_mem_nil, or_false] at hf ⊢; rcases hf with h | h | h | h | h | h | h | h | h <;> simp [h, cellsP])⟩ ?_
  clear hF hM hrow a e3
  rintro m a w' ⟨k, fd, fv, hm, hfk, hfd, hfr, hF, hM⟩
  by_cases hk : k < ms.length
  · obtain ⟨d, hd⟩ := get_of_lt hk
    obtain ⟨am', rfl⟩ : ∃ ad, am = some ad := rd_some hM (enc := Value.int .u64) (a := am) (xs := ms) (by (repeat (first | with_reducible exact List.mem_cons_self | refine List.mem_cons_of_mem _ ?_))) hd
    (repeat' (first | (with_reducible refine w_seq ?_) | (with_reducible refine c_region ?_) | (with_reducible refine s_nil ?_) | (with_reducible refine q_then_n ?_) | ((with_reducible apply s_pure hF); exact rfl; exact rfl; exact rfl; (first | exact trivial | omega | exact ⟨Int.natCast_nonneg _, Int.ofNat_lt.2 (by assumption)⟩ | decide); clear hF a; intro a hF) | ((with_reducible apply s_loadF hF hM); exact rfl; exact rfl; (repeat (first | exact List.mem_cons_self | refine List.mem_cons_of_mem _ ?_)); exact rfl; exact rfl; (first | with_reducible assumption | (simp only [Int.toNat_natCast]; with_reducible assumption)); clear hF a; intro a hF) | ((with_reducible apply s_store hF hM); exact rfl; exact rfl; exact rfl; exact rfl; (repeat (first | exact Upd.z | apply Upd.s)); exact rfl; exact rfl; exact rfl; clear hM; intro w hM) | ((with_reducible apply s_alloc hF hM); exact rfl; exact rfl; exact rfl; clear hF hM a; intro b w a hM hF) | (with_reducible refine w_skip ?_) | (with_reducible refine w_block ?_) | ((with_reducible apply c_dec hF); exact rfl; all_goals intro hc; all_goals (try (exfalso; omega)))))
    generalize b = b14 at *
    replace hM := hM.freeze
    have e4 := fun {W} hl => idxC_c 47 [.pointer (some ⟨b14, 0, none⟩)] (fun i => decide (i.d = d)) (BxF b14 [.int .u64 d] 54) rfl rs (allI N l S).length hrl (by omega) (fun t _ own W hl hk => recovers1_c d t b14 own W hl hk) xa xc (fun _ => False) W hl
    (((with_reducible apply s_call (f := 46) hF hM); exact rfl; exact rfl; exact rfl; exact rfl; exact rfl; exact (e4 (fun b h => h.elim) (hM.factOut (f := BxF b14 [.int .u64 d] 54) (by (repeat (first | exact List.mem_cons_self | refine List.mem_cons_of_mem _ ?_)))) (hM.factOut (f := RdF id xa (rs.map itC).flatten) (by (repeat (first | with_reducible exact List.mem_cons_self | refine List.mem_cons_of_mem _ ?_))))); clear hF hM a; rintro v w a ⟨i, rfl, hi⟩ - hM hF))
    clear e4
    obtain ⟨j, it, rfl, hj1, hj2, -⟩ : ∃ (j : Nat) (x : Itm), i = j ∧ (ims rs)[j]? = some x ∧ decide (x.d = d) = true ∧ ∀ y ∈ (ims rs).take j, decide (y.d = d) = false := by
      rcases hi with ⟨rfl, h⟩ | h
      · obtain ⟨u, hu, e⟩ := hmsd d (List.mem_of_getElem? hd)
        rw [← q1] at hu
        have := h u hu
        exact absurd e (of_decide_eq_false this)
      · exact h
    rw [decide_eq_true_eq] at hj2
    obtain ⟨p, hp, hpit⟩ : ∃ p, rs[j]? = some p ∧ p.1 = it := by
      unfold ims at hj1
      rw [List.getElem?_map] at hj1
      cases hp : rs[j]? with
      | none => rw [hp] at hj1; cases hj1
      | some p => rw [hp] at hj1; injection hj1 with hj1; exact ⟨p, rfl, hj1⟩
    have hpm := List.mem_of_getElem? hp
    have hjl : j < rs.length := (List.getElem?_eq_some_iff.1 hp).1
    have hpe : (rs.map itC)[j]? = some [.int .u64 p.1.d, .slice p.2.1 p.1.x.length p.2.2] := by rw [List.getElem?_map, hp]; rfl
    have hw := itC_len rs
    obtain ⟨adr', rfl⟩ : ∃ ad, xa = some ad := rd_some hM (enc := id) (a := xa) (xs := (rs.map itC).flatten) (by (repeat (first | with_reducible exact List.mem_cons_self | refine List.mem_cons_of_mem _ ?_))) (flat_get (q := 0) hw hpe rfl)
    (repeat' (first | (with_reducible refine w_seq ?_) | (with_reducible refine c_region ?_) | (with_reducible refine s_nil ?_) | ((with_reducible apply s_loadE hF hM); exact rfl; exact rfl; (repeat (first | exact List.mem_cons_self | refine List.mem_cons_of_mem _ ?_)); exact rfl; exact rfl; (first | with_reducible assumption | (simp only [Int.toNat_natCast]; with_reducible assumption)); (with_reducible assumption); clear hF a; intro a hF) | (with_reducible refine q_then_n ?_) | ((with_reducible apply s_pure hF); exact rfl; exact rfl; exact rfl; (first | exact trivial | omega | exact ⟨Int.natCast_nonneg _, Int.ofNat_lt.2 (by assumption)⟩ | decide); clear hF a; intro a hF) | ((with_reducible apply s_lit hF hM); exact rfl; exact rfl; exact rfl; exact rfl; clear hF hM a; intro bl w a hM hF) | ((with_reducible apply s_app hF hM); exact rfl; exact rfl; exact rfl; exact rfl; (repeat (first | exact Kth.z | apply Kth.s)); exact rfl; exact rfl; exact rfl; exact rfl; omega; clear hF hM a; intro g cap w a hM hF; dsimp only [List.set] at hM) | (with_reducible refine w_skip ?_) | (with_reducible refine q_blk_n ?_) | ((with_reducible apply c_false2 hF); exact rfl; (first | with_reducible rfl | (refine congrArg Value.bool ?_; focus (simp; done))))))
    refine ⟨m - 1, by omega, k + 1, fd ++ [p], .slice (some ⟨g, 0, none⟩) (k + 1) cap, by omega, by rw [List.length_append, hfk]; rfl, ?_, ?_, hF.sub (by repeat (first | exact Sub.nil | refine Sub.cons rfl (by first | with_reducible rfl | (refine congrArg (Value.int _) ?_; omega) | exact rfl) ?_)), ?_⟩
    · rw [ims_app, List.map_append, hfd, take_snoc hd]
      show ms.take k ++ [p.1.d] = _
      rw [hpit, hj2]
    · intro q hq
      rcases List.mem_append.1 hq with hq | hq
      · exact hfr q hq
      · rw [List.mem_singleton.1 hq]; exact hpm
    · rw [cellsP_app]
      exact (hM.addFact (DatF.snoc (hM.facts (DatF fd) (by (repeat (first | with_reducible exact List.mem_cons_self | refine List.mem_cons_of_mem _ ?_)))) (dat_one (hM.facts (DatF rs) (by (repeat (first | with_reducible exact List.mem_cons_self | refine List.mem_cons_of_mem _ ?_)))) hpm))).sub (.refl _) (.refl _) (fun f hf => by simp only [List.mem_cons, List.not_mem_nil, or_false] at hf ⊢; rcases hf with h | h | h | h | h | h | h | h | h <;> simp [h])
  · obtain rfl : k = ms.length := by omega
    rw [List.take_of_length_le (Nat.le_refl _)] at hfd
    have hfm : ∀ i ∈ ims fd, i ∈ allI N l S := fun i hi => by
      obtain ⟨p, hp, rfl⟩ := List.mem_map.1 hi
      rw [← q1]
      exact List.mem_map.2 ⟨p, hfr p hp, rfl⟩
    have hfw : DatW fd := q2.sub hfr
    have hfx : ∀ p ∈ fd, p.1.x.length ≤ 100000 := fun p hp => hax p (hfr p hp)
    obtain ⟨d1, d2⟩ := dec_raw hno (cap := cp) hstl (l := ims qs) (o := []) hPx hPb
    obtain ⟨l2, hl2⟩ := dec_sup hno (cap := cp) (f := ims fd) (fun i hi => hPi i (hfm i hi)) hstl (l := ims qs) (o := []) (m := []) hPx hPb (fun x hx hd => by
      rw [hms, ← hfd] at hd
      obtain ⟨i, hi, e⟩ := List.mem_map.1 hd
      obtain ⟨c1, c2⟩ := hall i (hfm i hi)
      exact ⟨i, hi, e, c1, c2.symm⟩)
    rw [hms] at d1 d2
    rw [List.nil_append, hpf] at hl2
    obtain ⟨av, cv, rfl, hcv, -⟩ := OffR.shape hM (k := 0) rfl (OffR.plain hM List.mem_cons_self)
    replace hM := Mm.freezeN (enc := id) (xs := cellsP fd) (by rw [List.map_id]; exact hM)
    have e5 := fun {own W} hl h1 h2 hx1 hx2 => Decode29_c cp qs a1 c1 qs.length rfl (by omega) hqw hqx own W hl h1 h2 us u2 x2 y2 rt.length hul (by omega) hx1 hx2
    have e6 := fun {own W} hl h1 h2 hx1 hx2 => Supply29_c fd av cv ms.length hfk (by omega) hfw hfx own W hl h1 h2 us u2 htx x2 y2 rt.length hul (by omega) hx1 hx2
    have e7 : ∀ {own : Nat → Prop} {W : World} (vs : List TP) (x4 : Option Addr) (y4 : Nat), tms vs = (tms us).map (supT (ims fd)) → DatW (tP vs) → (∀ b, own b → b < W.heap.size) → Has own W (RdF id a1 (cellsP qs)) → Has own W (DatF qs) → Has own W (RdF id x4 (cellsT vs)) → Has own W (DatF (tP vs)) → Calls Try.prog 19 ⟨[.agg #[.int .i64 cp, .slice a1 qs.length c1], .slice x4 us.length y4]⟩ W (Ret W (decP own cp (.ok (l2, l)))) := by
      intro own W vs x4 y4 v1 v2 hl h1 h2 h3 h4
      have hvl : vs.length = us.length := by rw [← tms_len, v1, List.length_map, tms_len]
      have h := Decode29_c cp qs a1 c1 qs.length rfl (by omega) hqw hqx own W hl h1 h2 vs v2 x4 y4 us.length hvl (by omega) h3 h4
      rw [show decR ⟨cp, ims qs⟩ (tms vs) = .ok (l2, l) by
        unfold decR
        rw [hckb, if_neg (by simp), v1, u1]
        exact hl2] at h
      exact h
    by_cases hm0 : ms = []
    · obtain ⟨l1, hl1⟩ := d1 hm0
      rw [show decR ⟨cp, ims qs⟩ (tms us) = .ok (l1, [] ++ (parts N l).flatten) by
        unfold decR
        rw [hckb, if_neg (by simp), u1]
        exact hl1] at e5
      have hml0 : ms.length = 0 := by rw [hm0]; rfl
      (repeat' (first | (with_reducible refine w_seq ?_) | (with_reducible refine c_region ?_) | (with_reducible refine s_nil ?_) | (with_reducible refine q_then_n ?_) | ((with_reducible apply s_pure hF); exact rfl; exact rfl; exact rfl; (first | exact trivial | omega | exact ⟨Int.natCast_nonneg _, Int.ofNat_lt.2 (by assumption)⟩ | decide); clear hF a; intro a hF) | ((with_reducible apply s_load hF hM); exact rfl; exact rfl; (repeat (first | exact List.mem_cons_self | refine List.mem_cons_of_mem _ ?_)); exact rfl; exact rfl; clear hF a; intro a hF) | (with_reducible refine w_exit ?_) | (with_reducible refine q_then_x ?_) | (with_reducible refine q_blk_x ?_) | ((with_reducible apply c_false2 hF); exact rfl; (first | with_reducible rfl | (refine congrArg Value.bool ?_; focus (simp; done))))))
      (((with_reducible apply s_call (f := 19) hF hM); exact rfl; exact rfl; exact rfl; exact rfl; exact rfl; exact (e5 hM.lt (hM.facts (RdF id a1 (cellsP qs)) (by (repeat (first | with_reducible exact List.mem_cons_self | refine List.mem_cons_of_mem _ ?_)))) (hM.facts (DatF qs) (by (repeat (first | with_reducible exact List.mem_cons_self | refine List.mem_cons_of_mem _ ?_)))) (hM.facts (RdF id x2 (cellsT us)) (by (repeat (first | with_reducible exact List.mem_cons_self | refine List.mem_cons_of_mem _ ?_)))) (hM.facts (DatF (tP us)) (by (repeat (first | with_reducible exact List.mem_cons_self | refine List.mem_cons_of_mem _ ?_))))); clear hF hM a; rintro v w a ⟨x7, y7, x8, y8, rfl, -, -, -, -, -⟩ - hM hF))
      rw [hml0] at hF
      (repeat' (first | (with_reducible refine w_seq ?_) | (with_reducible refine c_region ?_) | (with_reducible refine s_nil ?_) | ((with_reducible apply s_neB hF); exact rfl; exact rfl; exact rfl; kernel_rfl; kernel_rfl; exact rfl; clear hF a; intro a hF) | (with_reducible refine q_then_n ?_) | ((with_reducible apply s_pure hF); exact rfl; exact rfl; exact rfl; (first | exact trivial | omega | exact ⟨Int.natCast_nonneg _, Int.ofNat_lt.2 (by assumption)⟩ | decide); clear hF a; intro a hF) | ((with_reducible apply s_store hF hM); exact rfl; exact rfl; exact rfl; exact rfl; (repeat (first | exact Upd.z | apply Upd.s)); exact rfl; exact rfl; exact rfl; clear hM; intro w hM) | ((with_reducible apply s_alloc hF hM); exact rfl; exact rfl; exact rfl; clear hF hM a; intro b w a hM hF) | (with_reducible refine w_skip ?_) | ((with_reducible apply c_false2 hF); exact rfl; (first | with_reducible rfl | (refine congrArg Value.bool ?_; focus (simp; done))))))
      rw [hml0] at e6
      refine c_draw (fun i => Nat.ble 13 i) hM ?_; clear hM; intro w hM
      (first | (apply t_load (i := 0) hF rfl rfl rfl; (repeat (first | exact List.mem_cons_self | refine List.mem_cons_of_mem _ ?_)); exact rfl; exact rfl; kernel_rfl; exact hM.sm; exact (fun _ _ _ h => h); clear hF a; intro a hF))
      (first | (refine t_pure (i := 1) hF rfl rfl rfl rfl (by kernel_rfl) hM.sm (fun _ _ _ h => h) ?_ ?_; (first | exact trivial | omega | decide); clear hF a; intro a hF))
      (first | (refine t_pure (i := 2) hF rfl rfl rfl rfl (by kernel_rfl) hM.sm (fun _ _ _ h => h) ?_ ?_; (first | exact trivial | omega | decide); clear hF a; intro a hF))
      refine t_two (i := 3) (j := 9) hF rfl rfl (by kernel_rfl) rfl rfl ?_ ?_
      ·
        intro K hK
        (apply x_call hF hM; exact rfl; exact rfl; exact rfl; exact rfl; exact (e6 hM.lt (hM.facts (RdF id av (cellsP fd)) (by (repeat (first | with_reducible exact List.mem_cons_self | refine List.mem_cons_of_mem _ ?_)))) (hM.facts (DatF fd) (by (repeat (first | with_reducible exact List.mem_cons_self | refine List.mem_cons_of_mem _ ?_)))) (hM.facts (RdF id x2 (cellsT us)) (by (repeat (first | with_reducible exact List.mem_cons_self | refine List.mem_cons_of_mem _ ?_)))) (hM.facts (DatF (tP us)) (by (repeat (first | with_reducible exact List.mem_cons_self | refine List.mem_cons_of_mem _ ?_))))); clear hF hM a; rintro v w a ⟨x4, y4, rfl, vs, v1, v2, v3, v4, v5⟩ - hM hF)
        replace hM := (hM.addFact v3).addFact v4
        refine hK _ _ (fun _ => (hM.sm.sub (fun x hx => by repeat (first | exact hx | refine List.mem_cons_of_mem _ ?_)) (fun _ h => by repeat (first | exact h | refine List.mem_cons_of_mem _ ?_)))) ?_; clear hK
        refine t_two (i := 4) (j := 9) hF rfl rfl (by kernel_rfl) rfl rfl ?_ ?_
        ·
          intro K hK
          (apply x_call hF hM; exact rfl; exact rfl; exact rfl; exact rfl; exact (e7 vs x4 y4 v1 v2 hM.lt (hM.facts (RdF id a1 (cellsP qs)) (by (repeat (first | with_reducible exact List.mem_cons_self | refine List.mem_cons_of_mem _ ?_)))) (hM.facts (DatF qs) (by (repeat (first | with_reducible exact List.mem_cons_self | refine List.mem_cons_of_mem _ ?_)))) (hM.facts (RdF id x4 (cellsT vs)) (by (repeat (first | with_reducible exact List.mem_cons_self | refine List.mem_cons_of_mem _ ?_)))) (hM.facts (DatF (tP vs)) (by (repeat (first | with_reducible exact List.mem_cons_self | refine List.mem_cons_of_mem _ ?_))))); clear hF hM a; rintro v w a ⟨x5, y5, x6, y6, rfl, -, w1, w2, w3, w4⟩ - hM hF)
          replace hM := hM.addFact w1
          refine hK _ _ (fun _ => (hM.sm.sub (fun x hx => by repeat (first | exact hx | refine List.mem_cons_of_mem _ ?_)) (fun _ h => by repeat (first | exact h | refine List.mem_cons_of_mem _ ?_)))) ?_; clear hK
          (first | (refine t_pure (i := 5) hF rfl rfl rfl rfl (by kernel_rfl) (hM.sm.sub (fun x hx => by repeat (first | exact hx | refine List.mem_cons_of_mem _ ?_)) (fun _ h => by repeat (first | exact h | refine List.mem_cons_of_mem _ ?_))) (fun _ _ _ h => h) ?_ ?_; (first | exact trivial | omega | decide); clear hF a; intro a hF))
          (first | (refine t_pure (i := 6) hF rfl rfl rfl rfl (by kernel_rfl) (hM.sm.sub (fun x hx => by repeat (first | exact hx | refine List.mem_cons_of_mem _ ?_)) (fun _ h => by repeat (first | exact h | refine List.mem_cons_of_mem _ ?_))) (fun _ _ _ h => h) ?_ ?_; (first | exact trivial | omega | decide); clear hF a; intro a hF))
          (first | (refine t_pure (i := 7) hF rfl rfl rfl rfl (by kernel_rfl) (hM.sm.sub (fun x hx => by repeat (first | exact hx | refine List.mem_cons_of_mem _ ?_)) (fun _ h => by repeat (first | exact h | refine List.mem_cons_of_mem _ ?_))) (fun _ _ _ h => h) ?_ ?_; (first | exact trivial | omega | decide); clear hF a; intro a hF))
          (first | (refine t_pure (i := 8) hF rfl rfl rfl rfl (by kernel_rfl) (hM.sm.sub (fun x hx => by repeat (first | exact hx | refine List.mem_cons_of_mem _ ?_)) (fun _ h => by repeat (first | exact h | refine List.mem_cons_of_mem _ ?_))) (fun _ _ _ h => h) ?_ ?_; (first | exact trivial | omega | decide); clear hF a; intro a hF))
          refine t_one (i := 9) hF rfl (by kernel_rfl) rfl ?_
          intro K hK
          (refine x_alloc hF hM rfl rfl ?_; clear hF hM a; intro b w a hM hF)
          refine hK _ _ (fun _ => (hM.sm.sub (fun x hx => by repeat (first | exact hx | refine List.mem_cons_of_mem _ ?_)) (fun _ h => by repeat (first | exact h | refine List.mem_cons_of_mem _ ?_)))) ?_; clear hK
          refine t_one (i := 10) hF rfl (by kernel_rfl) rfl ?_
          intro K hK
          (apply x_store hF hM rfl rfl rfl; (repeat (first | exact Upd.z | apply Upd.s)); exact rfl; exact rfl; exact rfl; clear hF hM a; intro w a hM hF)
          refine hK _ _ (fun _ => (hM.sm.sub (fun x hx => by repeat (first | exact hx | refine List.mem_cons_of_mem _ ?_)) (fun _ h => by repeat (first | exact h | refine List.mem_cons_of_mem _ ?_)))) ?_; clear hK
          (first | (refine t_pure (i := 11) hF rfl rfl rfl rfl (by kernel_rfl) (hM.sm.sub (fun x hx => by repeat (first | exact hx | refine List.mem_cons_of_mem _ ?_)) (fun _ h => by repeat (first | exact h | refine List.mem_cons_of_mem _ ?_))) (fun _ _ _ h => h) ?_ ?_; (first | exact trivial | omega | decide); clear hF a; intro a hF))
          (first | (refine t_pure (i := 12) hF rfl rfl rfl rfl (by kernel_rfl) (hM.sm.sub (fun x hx => by repeat (first | exact hx | refine List.mem_cons_of_mem _ ?_)) (fun _ h => by repeat (first | exact h | refine List.mem_cons_of_mem _ ?_))) (fun _ _ _ h => h) ?_ ?_; (first | exact trivial | omega | decide); clear hF a; intro a hF))
          refine t_done (by kernel_rfl) ?_
          dsimp only at hF hM w3
          (repeat' (first | (with_reducible refine w_seq ?_) | (with_reducible refine c_region ?_) | (with_reducible refine s_nil ?_) | ((with_reducible apply s_call (f := 21) hF hM); exact rfl; exact rfl; exact rfl; exact rfl; exact rfl; exact (eqS_c l l w3 hl8 x6 al _ _ y6 cl rfl rfl (by omega) _ _ hM.lt (hM.facts (RdF (Value.int .u8) x6 l.flatten) (by (repeat (first | with_reducible exact List.mem_cons_self | refine List.mem_cons_of_mem _ ?_)))) (hM.facts (RdF (Value.int .u8) al l.flatten) (by (repeat (first | with_reducible exact List.mem_cons_self | refine List.mem_cons_of_mem _ ?_))))); clear hF hM a; rintro v w a rfl - hM hF; rw [decide_eq_true rfl] at hF) | ((with_reducible apply s_call (f := 13) hF hM); exact rfl; exact rfl; exact rfl; exact rfl; exact rfl; exact (awake_c _ _ hM.lt); clear hF hM a; rintro v w a rfl - hM hF) | (with_reducible refine q_then_n ?_) | ((with_reducible apply s_pure hF); exact rfl; exact rfl; exact rfl; (first | exact trivial | omega | exact ⟨Int.natCast_nonneg _, Int.ofNat_lt.2 (by assumption)⟩ | decide); clear hF a; intro a hF) | (with_reducible refine w_ret ?_)))
          (apply f_ret Try.results9 hF hM; (repeat (first | exact RL.nil | (apply RL.tmp; exact rfl) | (apply RL.cell; exact rfl; (repeat (first | exact List.mem_cons_self | refine List.mem_cons_of_mem _ ?_)); exact rfl))); refine Ret.mk hM.since ?_; dsimp only [resV])
        ·
          intro K hK
          (refine x_alloc hF hM rfl rfl ?_; clear hF hM a; intro b w a hM hF)
          refine hK _ _ (fun _ => (hM.sm.sub (fun x hx => by repeat (first | exact hx | refine List.mem_cons_of_mem _ ?_)) (fun _ h => by repeat (first | exact h | refine List.mem_cons_of_mem _ ?_)))) ?_; clear hK
          refine t_one (i := 4) hF rfl (by kernel_rfl) rfl ?_
          intro K hK
          (apply x_call hF hM; exact rfl; exact rfl; exact rfl; exact rfl; exact (e7 vs x4 y4 v1 v2 hM.lt (hM.facts (RdF id a1 (cellsP qs)) (by (repeat (first | with_reducible exact List.mem_cons_self | refine List.mem_cons_of_mem _ ?_)))) (hM.facts (DatF qs) (by (repeat (first | with_reducible exact List.mem_cons_self | refine List.mem_cons_of_mem _ ?_)))) (hM.facts (RdF id x4 (cellsT vs)) (by (repeat (first | with_reducible exact List.mem_cons_self | refine List.mem_cons_of_mem _ ?_)))) (hM.facts (DatF (tP vs)) (by (repeat (first | with_reducible exact List.mem_cons_self | refine List.mem_cons_of_mem _ ?_))))); clear hF hM a; rintro v w a ⟨x5, y5, x6, y6, rfl, -, w1, w2, w3, w4⟩ - hM hF)
          replace hM := hM.addFact w1
          refine hK _ _ (fun _ => (hM.sm.sub (fun x hx => by repeat (first | exact hx | refine List.mem_cons_of_mem _ ?_)) (fun _ h => by repeat (first | exact h | refine List.mem_cons_of_mem _ ?_)))) ?_; clear hK
          (first | (refine t_pure (i := 5) hF rfl rfl rfl rfl (by kernel_rfl) (hM.sm.sub (fun x hx => by repeat (first | exact hx | refine List.mem_cons_of_mem _ ?_)) (fun _ h => by repeat (first | exact h | refine List.mem_cons_of_mem _ ?_))) (fun _ _ _ h => h) ?_ ?_; (first | exact trivial | omega | decide); clear hF a; intro a hF))
          (first | (refine t_pure (i := 6) hF rfl rfl rfl rfl (by kernel_rfl) (hM.sm.sub (fun x hx => by repeat (first | exact hx | refine List.mem_cons_of_mem _ ?_)) (fun _ h => by repeat (first | exact h | refine List.mem_cons_of_mem _ ?_))) (fun _ _ _ h => h) ?_ ?_; (first | exact trivial | omega | decide); clear hF a; intro a hF))
          (first | (refine t_pure (i := 7) hF rfl rfl rfl rfl (by kernel_rfl) (hM.sm.sub (fun x hx => by repeat (first | exact hx | refine List.mem_cons_of_mem _ ?_)) (fun _ h => by repeat (first | exact h | refine List.mem_cons_of_mem _ ?_))) (fun _ _ _ h => h) ?_ ?_; (first | exact trivial | omega | decide); clear hF a; intro a hF))
          (first | (refine t_pure (i := 8) hF rfl rfl rfl rfl (by kernel_rfl) (hM.sm.sub (fun x hx => by repeat (first | exact hx | refine List.mem_cons_of_mem _ ?_)) (fun _ h => by repeat (first | exact h | refine List.mem_cons_of_mem _ ?_))) (fun _ _ _ h => h) ?_ ?_; (first | exact trivial | omega | decide); clear hF a; intro a hF))
          refine t_one (i := 10) hF rfl (by kernel_rfl) rfl ?_
          intro K hK
          (apply x_store hF hM rfl rfl rfl; (repeat (first | exact Upd.z | apply Upd.s)); exact rfl; exact rfl; exact rfl; clear hF hM a; intro w a hM hF)
          refine hK _ _ (fun _ => (hM.sm.sub (fun x hx => by repeat (first | exact hx | refine List.mem_cons_of_mem _ ?_)) (fun _ h => by repeat (first | exact h | refine List.mem_cons_of_mem _ ?_)))) ?_; clear hK
          (first | (refine t_pure (i := 11) hF rfl rfl rfl rfl (by kernel_rfl) (hM.sm.sub (fun x hx => by repeat (first | exact hx | refine List.mem_cons_of_mem _ ?_)) (fun _ h => by repeat (first | exact h | refine List.mem_cons_of_mem _ ?_))) (fun _ _ _ h => h) ?_ ?_; (first | exact trivial | omega | decide); clear hF a; intro a hF))
          (first | (refine t_pure (i := 12) hF rfl rfl rfl rfl (by kernel_rfl) (hM.sm.sub (fun x hx => by repeat (first | exact hx | refine List.mem_cons_of_mem _ ?_)) (fun _ h => by repeat (first | exact h | refine List.mem_cons_of_mem _ ?_))) (fun _ _ _ h => h) ?_ ?_; (first | exact trivial | omega | decide); clear hF a; intro a hF))
          refine t_done (by kernel_rfl) ?_
          dsimp only at hF hM w3
          (repeat' (first | (with_reducible refine w_seq ?_) | (with_reducible refine c_region ?_) | (with_reducible refine s_nil ?_) | ((with_reducible apply s_call (f := 21) hF hM); exact rfl; exact rfl; exact rfl; exact rfl; exact rfl; exact (eqS_c l l w3 hl8 x6 al _ _ y6 cl rfl rfl (by omega) _ _ hM.lt (hM.facts (RdF (Value.int .u8) x6 l.flatten) (by (repeat (first | with_reducible exact List.mem_cons_self | refine List.mem_cons_of_mem _ ?_)))) (hM.facts (RdF (Value.int .u8) al l.flatten) (by (repeat (first | with_reducible exact List.mem_cons_self | refine List.mem_cons_of_mem _ ?_))))); clear hF hM a; rintro v w a rfl - hM hF; rw [decide_eq_true rfl] at hF) | ((with_reducible apply s_call (f := 13) hF hM); exact rfl; exact rfl; exact rfl; exact rfl; exact rfl; exact (awake_c _ _ hM.lt); clear hF hM a; rintro v w a rfl - hM hF) | (with_reducible refine q_then_n ?_) | ((with_reducible apply s_pure hF); exact rfl; exact rfl; exact rfl; (first | exact trivial | omega | exact ⟨Int.natCast_nonneg _, Int.ofNat_lt.2 (by assumption)⟩ | decide); clear hF a; intro a hF) | (with_reducible refine w_ret ?_)))
          (apply f_ret Try.results9 hF hM; (repeat (first | exact RL.nil | (apply RL.tmp; exact rfl) | (apply RL.cell; exact rfl; (repeat (first | exact List.mem_cons_self | refine List.mem_cons_of_mem _ ?_)); exact rfl))); refine Ret.mk hM.since ?_; dsimp only [resV])
      ·
        intro K hK
        (refine x_alloc hF hM rfl rfl ?_; clear hF hM a; intro b w a hM hF)
        refine hK _ _ (fun _ => (hM.sm.sub (fun x hx => by repeat (first | exact hx | refine List.mem_cons_of_mem _ ?_)) (fun _ h => by repeat (first | exact h | refine List.mem_cons_of_mem _ ?_)))) ?_; clear hK
        refine t_one (i := 3) hF rfl (by kernel_rfl) rfl ?_
        intro K hK
        (apply x_call hF hM; exact rfl; exact rfl; exact rfl; exact rfl; exact (e6 hM.lt (hM.facts (RdF id av (cellsP fd)) (by (repeat (first | with_reducible exact List.mem_cons_self | refine List.mem_cons_of_mem _ ?_)))) (hM.facts (DatF fd) (by (repeat (first | with_reducible exact List.mem_cons_self | refine List.mem_cons_of_mem _ ?_)))) (hM.facts (RdF id x2 (cellsT us)) (by (repeat (first | with_reducible exact List.mem_cons_self | refine List.mem_cons_of_mem _ ?_)))) (hM.facts (DatF (tP us)) (by (repeat (first | with_reducible exact List.mem_cons_self | refine List.mem_cons_of_mem _ ?_))))); clear hF hM a; rintro v w a ⟨x4, y4, rfl, vs, v1, v2, v3, v4, v5⟩ - hM hF)
        replace hM := (hM.addFact v3).addFact v4
        refine hK _ _ (fun _ => (hM.sm.sub (fun x hx => by repeat (first | exact hx | refine List.mem_cons_of_mem _ ?_)) (fun _ h => by repeat (first | exact h | refine List.mem_cons_of_mem _ ?_)))) ?_; clear hK
        refine t_one (i := 4) hF rfl (by kernel_rfl) rfl ?_
        intro K hK
        (apply x_call hF hM; exact rfl; exact rfl; exact rfl; exact rfl; exact (e7 vs x4 y4 v1 v2 hM.lt (hM.facts (RdF id a1 (cellsP qs)) (by (repeat (first | with_reducible exact List.mem_cons_self | refine List.mem_cons_of_mem _ ?_)))) (hM.facts (DatF qs) (by (repeat (first | with_reducible exact List.mem_cons_self | refine List.mem_cons_of_mem _ ?_)))) (hM.facts (RdF id x4 (cellsT vs)) (by (repeat (first | with_reducible exact List.mem_cons_self | refine List.mem_cons_of_mem _ ?_)))) (hM.facts (DatF (tP vs)) (by (repeat (first | with_reducible exact List.mem_cons_self | refine List.mem_cons_of_mem _ ?_))))); clear hF hM a; rintro v w a ⟨x5, y5, x6, y6, rfl, -, w1, w2, w3, w4⟩ - hM hF)
        replace hM := hM.addFact w1
        refine hK _ _ (fun _ => (hM.sm.sub (fun x hx => by repeat (first | exact hx | refine List.mem_cons_of_mem _ ?_)) (fun _ h => by repeat (first | exact h | refine List.mem_cons_of_mem _ ?_)))) ?_; clear hK
        (first | (refine t_pure (i := 5) hF rfl rfl rfl rfl (by kernel_rfl) (hM.sm.sub (fun x hx => by repeat (first | exact hx | refine List.mem_cons_of_mem _ ?_)) (fun _ h => by repeat (first | exact h | refine List.mem_cons_of_mem _ ?_))) (fun _ _ _ h => h) ?_ ?_; (first | exact trivial | omega | decide); clear hF a; intro a hF))
        (first | (refine t_pure (i := 6) hF rfl rfl rfl rfl (by kernel_rfl) (hM.sm.sub (fun x hx => by repeat (first | exact hx | refine List.mem_cons_of_mem _ ?_)) (fun _ h => by repeat (first | exact h | refine List.mem_cons_of_mem _ ?_))) (fun _ _ _ h => h) ?_ ?_; (first | exact trivial | omega | decide); clear hF a; intro a hF))
        (first | (refine t_pure (i := 7) hF rfl rfl rfl rfl (by kernel_rfl) (hM.sm.sub (fun x hx => by repeat (first | exact hx | refine List.mem_cons_of_mem _ ?_)) (fun _ h => by repeat (first | exact h | refine List.mem_cons_of_mem _ ?_))) (fun _ _ _ h => h) ?_ ?_; (first | exact trivial | omega | decide); clear hF a; intro a hF))
        (first | (refine t_pure (i := 8) hF rfl rfl rfl rfl (by kernel_rfl) (hM.sm.sub (fun x hx => by repeat (first | exact hx | refine List.mem_cons_of_mem _ ?_)) (fun _ h => by repeat (first | exact h | refine List.mem_cons_of_mem _ ?_))) (fun _ _ _ h => h) ?_ ?_; (first | exact trivial | omega | decide); clear hF a; intro a hF))
        refine t_one (i := 10) hF rfl (by kernel_rfl) rfl ?_
        intro K hK
        (apply x_store hF hM rfl rfl rfl; (repeat (first | exact Upd.z | apply Upd.s)); exact rfl; exact rfl; exact rfl; clear hF hM a; intro w a hM hF)
        refine hK _ _ (fun _ => (hM.sm.sub (fun x hx => by repeat (first | exact hx | refine List.mem_cons_of_mem _ ?_)) (fun _ h => by repeat (first | exact h | refine List.mem_cons_of_mem _ ?_)))) ?_; clear hK
        (first | (refine t_pure (i := 11) hF rfl rfl rfl rfl (by kernel_rfl) (hM.sm.sub (fun x hx => by repeat (first | exact hx | refine List.mem_cons_of_mem _ ?_)) (fun _ h => by repeat (first | exact h | refine List.mem_cons_of_mem _ ?_))) (fun _ _ _ h => h) ?_ ?_; (first | exact trivial | omega | decide); clear hF a; intro a hF))
        (first | (refine t_pure (i := 12) hF rfl rfl rfl rfl (by kernel_rfl) (hM.sm.sub (fun x hx => by repeat (first | exact hx | refine List.mem_cons_of_mem _ ?_)) (fun _ h => by repeat (first | exact h | refine List.mem_cons_of_mem _ ?_))) (fun _ _ _ h => h) ?_ ?_; (first | exact trivial | omega | decide); clear hF a; intro a hF))
        refine t_done (by kernel_rfl) ?_
        dsimp only at hF hM w3
        (repeat' (first | (with_reducible refine w_seq ?_) | (with_reducible refine c_region ?_) | (with_reducible refine s_nil ?_) | ((with_reducible apply s_call (f := 21) hF hM); exact rfl; exact rfl; exact rfl; exact rfl; exact rfl; exact (eqS_c l l w3 hl8 x6 al _ _ y6 cl rfl rfl (by omega) _ _ hM.lt (hM.facts (RdF (Value.int .u8) x6 l.flatten) (by (repeat (first | with_reducible exact List.mem_cons_self | refine List.mem_cons_of_mem _ ?_)))) (hM.facts (RdF (Value.int .u8) al l.flatten) (by (repeat (first | with_reducible exact List.mem_cons_self | refine List.mem_cons_of_mem _ ?_))))); clear hF hM a; rintro v w a rfl - hM hF; rw [decide_eq_true rfl] at hF) | ((with_reducible apply s_call (f := 13) hF hM); exact rfl; exact rfl; exact rfl; exact rfl; exact rfl; exact (awake_c _ _ hM.lt); clear hF hM a; rintro v w a rfl - hM hF) | (with_reducible refine q_then_n ?_) | ((with_reducible apply s_pure hF); exact rfl; exact rfl; exact rfl; (first | exact trivial | omega | exact ⟨Int.natCast_nonneg _, Int.ofNat_lt.2 (by assumption)⟩ | decide); clear hF a; intro a hF) | (with_reducible refine w_ret ?_)))
        (apply f_ret Try.results9 hF hM; (repeat (first | exact RL.nil | (apply RL.tmp; exact rfl) | (apply RL.cell; exact rfl; (repeat (first | exact List.mem_cons_self | refine List.mem_cons_of_mem _ ?_)); exact rfl))); refine Ret.mk hM.since ?_; dsimp only [resV])
    · rw [show decR ⟨cp, ims qs⟩ (tms us) = .error 25 by
        unfold decR
        rw [hckb, if_neg (by simp), u1]
        exact d2 hm0] at e5
      have hml0 : 0 < ms.length := Nat.pos_of_ne_zero fun h => hm0 (List.eq_nil_of_length_eq_zero h)
      (repeat' (first | (with_reducible refine w_seq ?_) | (with_reducible refine c_region ?_) | (with_reducible refine s_nil ?_) | (with_reducible refine q_then_n ?_) | ((with_reducible apply s_pure hF); exact rfl; exact rfl; exact rfl; (first | exact trivial | omega | exact ⟨Int.natCast_nonneg _, Int.ofNat_lt.2 (by assumption)⟩ | decide); clear hF a; intro a hF) | ((with_reducible apply s_load hF hM); exact rfl; exact rfl; (repeat (first | exact List.mem_cons_self | refine List.mem_cons_of_mem _ ?_)); exact rfl; exact rfl; clear hF a; intro a hF) | (with_reducible refine w_exit ?_) | (with_reducible refine q_then_x ?_) | (with_reducible refine q_blk_x ?_) | ((with_reducible apply c_false2 hF); exact rfl; (first | with_reducible rfl | (refine congrArg Value.bool ?_; focus (simp; done))))))
      (((with_reducible apply s_call (f := 19) hF hM); exact rfl; exact rfl; exact rfl; exact rfl; exact rfl; exact (e5 hM.lt (hM.facts (RdF id a1 (cellsP qs)) (by (repeat (first | with_reducible exact List.mem_cons_self | refine List.mem_cons_of_mem _ ?_)))) (hM.facts (DatF qs) (by (repeat (first | with_reducible exact List.mem_cons_self | refine List.mem_cons_of_mem _ ?_)))) (hM.facts (RdF id x2 (cellsT us)) (by (repeat (first | with_reducible exact List.mem_cons_self | refine List.mem_cons_of_mem _ ?_)))) (hM.facts (DatF (tP us)) (by (repeat (first | with_reducible exact List.mem_cons_self | refine List.mem_cons_of_mem _ ?_))))); clear hF hM a; rintro v w a rfl - hM hF))
      (repeat' (first | (with_reducible refine w_seq ?_) | (with_reducible refine c_region ?_) | (with_reducible refine s_nil ?_) | ((with_reducible apply s_neB hF); exact rfl; exact rfl; exact rfl; kernel_rfl; kernel_rfl; exact rfl; clear hF a; intro a hF) | (with_reducible refine q_then_n ?_) | ((with_reducible apply s_pure hF); exact rfl; exact rfl; exact rfl; (first | exact trivial | omega | exact ⟨Int.natCast_nonneg _, Int.ofNat_lt.2 (by assumption)⟩ | decide); clear hF a; intro a hF) | ((with_reducible apply s_store hF hM); exact rfl; exact rfl; exact rfl; exact rfl; (repeat (first | exact Upd.z | apply Upd.s)); exact rfl; exact rfl; exact rfl; clear hM; intro w hM) | ((with_reducible apply s_alloc hF hM); exact rfl; exact rfl; exact rfl; clear hF hM a; intro b w a hM hF) | (with_reducible refine w_skip ?_) | (with_reducible refine w_ret ?_) | (with_reducible refine q_then_r ?_) | ((with_reducible apply c_dec hF); exact rfl; all_goals intro hc; all_goals (try (exfalso; omega)))))
      · exact absurd (by rw [decide_eq_true (show (0 : Int) < (ms.length : Int) by omega)]; rfl) hc
      refine c_draw (fun i => Nat.ble 13 i) hM ?_; clear hM; intro w hM
      (first | (apply t_load (i := 0) hF rfl rfl rfl; (repeat (first | exact List.mem_cons_self | refine List.mem_cons_of_mem _ ?_)); exact rfl; exact rfl; kernel_rfl; exact hM.sm; exact (fun _ _ _ h => h); clear hF a; intro a hF))
      (first | (refine t_pure (i := 1) hF rfl rfl rfl rfl (by kernel_rfl) hM.sm (fun _ _ _ h => h) ?_ ?_; (first | exact trivial | omega | decide); clear hF a; intro a hF))
      (first | (refine t_pure (i := 2) hF rfl rfl rfl rfl (by kernel_rfl) hM.sm (fun _ _ _ h => h) ?_ ?_; (first | exact trivial | omega | decide); clear hF a; intro a hF))
      refine t_two (i := 3) (j := 9) hF rfl rfl (by kernel_rfl) rfl rfl ?_ ?_
      ·
        intro K hK
        (apply x_call hF hM; exact rfl; exact rfl; exact rfl; exact rfl; exact (e6 hM.lt (hM.facts (RdF id av (cellsP fd)) (by (repeat (first | with_reducible exact List.mem_cons_self | refine List.mem_cons_of_mem _ ?_)))) (hM.facts (DatF fd) (by (repeat (first | with_reducible exact List.mem_cons_self | refine List.mem_cons_of_mem _ ?_)))) (hM.facts (RdF id x2 (cellsT us)) (by (repeat (first | with_reducible exact List.mem_cons_self | refine List.mem_cons_of_mem _ ?_)))) (hM.facts (DatF (tP us)) (by (repeat (first | with_reducible exact List.mem_cons_self | refine List.mem_cons_of_mem _ ?_))))); clear hF hM a; rintro v w a ⟨x4, y4, rfl, vs, v1, v2, v3, v4, v5⟩ - hM hF)
        replace hM := (hM.addFact v3).addFact v4
        refine hK _ _ (fun _ => (hM.sm.sub (fun x hx => by repeat (first | exact hx | refine List.mem_cons_of_mem _ ?_)) (fun _ h => by repeat (first | exact h | refine List.mem_cons_of_mem _ ?_)))) ?_; clear hK
        refine t_two (i := 4) (j := 9) hF rfl rfl (by kernel_rfl) rfl rfl ?_ ?_
        ·
          intro K hK
          (apply x_call hF hM; exact rfl; exact rfl; exact rfl; exact rfl; exact (e7 vs x4 y4 v1 v2 hM.lt (hM.facts (RdF id a1 (cellsP qs)) (by (repeat (first | with_reducible exact List.mem_cons_self | refine List.mem_cons_of_mem _ ?_)))) (hM.facts (DatF qs) (by (repeat (first | with_reducible exact List.mem_cons_self | refine List.mem_cons_of_mem _ ?_)))) (hM.facts (RdF id x4 (cellsT vs)) (by (repeat (first | with_reducible exact List.mem_cons_self | refine List.mem_cons_of_mem _ ?_)))) (hM.facts (DatF (tP vs)) (by (repeat (first | with_reducible exact List.mem_cons_self | refine List.mem_cons_of_mem _ ?_))))); clear hF hM a; rintro v w a ⟨x5, y5, x6, y6, rfl, -, w1, w2, w3, w4⟩ - hM hF)
          replace hM := hM.addFact w1
          refine hK _ _ (fun _ => (hM.sm.sub (fun x hx => by repeat (first | exact hx | refine List.mem_cons_of_mem _ ?_)) (fun _ h => by repeat (first | exact h | refine List.mem_cons_of_mem _ ?_)))) ?_; clear hK
          (first | (refine t_pure (i := 5) hF rfl rfl rfl rfl (by kernel_rfl) (hM.sm.sub (fun x hx => by repeat (first | exact hx | refine List.mem_cons_of_mem _ ?_)) (fun _ h => by repeat (first | exact h | refine List.mem_cons_of_mem _ ?_))) (fun _ _ _ h => h) ?_ ?_; (first | exact trivial | omega | decide); clear hF a; intro a hF))
          (first | (refine t_pure (i := 6) hF rfl rfl rfl rfl (by kernel_rfl) (hM.sm.sub (fun x hx => by repeat (first | exact hx | refine List.mem_cons_of_mem _ ?_)) (fun _ h => by repeat (first | exact h | refine List.mem_cons_of_mem _ ?_))) (fun _ _ _ h => h) ?_ ?_; (first | exact trivial | omega | decide); clear hF a; intro a hF))
          (first | (refine t_pure (i := 7) hF rfl rfl rfl rfl (by kernel_rfl) (hM.sm.sub (fun x hx => by repeat (first | exact hx | refine List.mem_cons_of_mem _ ?_)) (fun _ h => by repeat (first | exact h | refine List.mem_cons_of_mem _ ?_))) (fun _ _ _ h => h) ?_ ?_; (first | exact trivial | omega | decide); clear hF a; intro a hF))
          (first | (refine t_pure (i := 8) hF rfl rfl rfl rfl (by kernel_rfl) (hM.sm.sub (fun x hx => by repeat (first | exact hx | refine List.mem_cons_of_mem _ ?_)) (fun _ h => by repeat (first | exact h | refine List.mem_cons_of_mem _ ?_))) (fun _ _ _ h => h) ?_ ?_; (first | exact trivial | omega | decide); clear hF a; intro a hF))
          refine t_one (i := 9) hF rfl (by kernel_rfl) rfl ?_
          intro K hK
          (refine x_alloc hF hM rfl rfl ?_; clear hF hM a; intro b w a hM hF)
          refine hK _ _ (fun _ => (hM.sm.sub (fun x hx => by repeat (first | exact hx | refine List.mem_cons_of_mem _ ?_)) (fun _ h => by repeat (first | exact h | refine List.mem_cons_of_mem _ ?_)))) ?_; clear hK
          refine t_one (i := 10) hF rfl (by kernel_rfl) rfl ?_
          intro K hK
          (apply x_store hF hM rfl rfl rfl; (repeat (first | exact Upd.z | apply Upd.s)); exact rfl; exact rfl; exact rfl; clear hF hM a; intro w a hM hF)
          refine hK _ _ (fun _ => (hM.sm.sub (fun x hx => by repeat (first | exact hx | refine List.mem_cons_of_mem _ ?_)) (fun _ h => by repeat (first | exact h | refine List.mem_cons_of_mem _ ?_)))) ?_; clear hK
          (first | (refine t_pure (i := 11) hF rfl rfl rfl rfl (by kernel_rfl) (hM.sm.sub (fun x hx => by repeat (first | exact hx | refine List.mem_cons_of_mem _ ?_)) (fun _ h => by repeat (first | exact h | refine List.mem_cons_of_mem _ ?_))) (fun _ _ _ h => h) ?_ ?_; (first | exact trivial | omega | decide); clear hF a; intro a hF))
          (first | (refine t_pure (i := 12) hF rfl rfl rfl rfl (by kernel_rfl) (hM.sm.sub (fun x hx => by repeat (first | exact hx | refine List.mem_cons_of_mem _ ?_)) (fun _ h => by repeat (first | exact h | refine List.mem_cons_of_mem _ ?_))) (fun _ _ _ h => h) ?_ ?_; (first | exact trivial | omega | decide); clear hF a; intro a hF))
          refine t_done (by kernel_rfl) ?_
          dsimp only at hF hM w3
          (repeat' (first | (with_reducible refine w_seq ?_) | (with_reducible refine c_region ?_) | (with_reducible refine s_nil ?_) | ((with_reducible apply s_call (f := 21) hF hM); exact rfl; exact rfl; exact rfl; exact rfl; exact rfl; exact (eqS_c l l w3 hl8 x6 al _ _ y6 cl rfl rfl (by omega) _ _ hM.lt (hM.facts (RdF (Value.int .u8) x6 l.flatten) (by (repeat (first | with_reducible exact List.mem_cons_self | refine List.mem_cons_of_mem _ ?_)))) (hM.facts (RdF (Value.int .u8) al l.flatten) (by (repeat (first | with_reducible exact List.mem_cons_self | refine List.mem_cons_of_mem _ ?_))))); clear hF hM a; rintro v w a rfl - hM hF; rw [decide_eq_true rfl] at hF) | ((with_reducible apply s_call (f := 13) hF hM); exact rfl; exact rfl; exact rfl; exact rfl; exact rfl; exact (awake_c _ _ hM.lt); clear hF hM a; rintro v w a rfl - hM hF) | (with_reducible refine q_then_n ?_) | ((with_reducible apply s_pure hF); exact rfl; exact rfl; exact rfl; (first | exact trivial | omega | exact ⟨Int.natCast_nonneg _, Int.ofNat_lt.2 (by assumption)⟩ | decide); clear hF a; intro a hF) | (with_reducible refine w_ret ?_)))
          (apply f_ret Try.results9 hF hM; (repeat (first | exact RL.nil | (apply RL.tmp; exact rfl) | (apply RL.cell; exact rfl; (repeat (first | exact List.mem_cons_self | refine List.mem_cons_of_mem _ ?_)); exact rfl))); refine Ret.mk hM.since ?_; dsimp only [resV])
        ·
          intro K hK
          (refine x_alloc hF hM rfl rfl ?_; clear hF hM a; intro b w a hM hF)
          refine hK _ _ (fun _ => (hM.sm.sub (fun x hx => by repeat (first | exact hx | refine List.mem_cons_of_mem _ ?_)) (fun _ h => by repeat (first | exact h | refine List.mem_cons_of_mem _ ?_)))) ?_; clear hK
          refine t_one (i := 4) hF rfl (by kernel_rfl) rfl ?_
          intro K hK
          (apply x_call hF hM; exact rfl; exact rfl; exact rfl; exact rfl; exact (e7 vs x4 y4 v1 v2 hM.lt (hM.facts (RdF id a1 (cellsP qs)) (by (repeat (first | with_reducible exact List.mem_cons_self | refine List.mem_cons_of_mem _ ?_)))) (hM.facts (DatF qs) (by (repeat (first | with_reducible exact List.mem_cons_self | refine List.mem_cons_of_mem _ ?_)))) (hM.facts (RdF id x4 (cellsT vs)) (by (repeat (first | with_reducible exact List.mem_cons_self | refine List.mem_cons_of_mem _ ?_)))) (hM.facts (DatF (tP vs)) (by (repeat (first | with_reducible exact List.mem_cons_self | refine List.mem_cons_of_mem _ ?_))))); clear hF hM a; rintro v w a ⟨x5, y5, x6, y6, rfl, -, w1, w2, w3, w4⟩ - hM hF)
          replace hM := hM.addFact w1
          refine hK _ _ (fun _ => (hM.sm.sub (fun x hx => by repeat (first | exact hx | refine List.mem_cons_of_mem _ ?_)) (fun _ h => by repeat (first | exact h | refine List.mem_cons_of_mem _ ?_)))) ?_; clear hK
          (first | (refine t_pure (i := 5) hF rfl rfl rfl rfl (by kernel_rfl) (hM.sm.sub (fun x hx => by repeat (first | exact hx | refine List.mem_cons_of_mem _ ?_)) (fun _ h => by repeat (first | exact h | refine List.mem_cons_of_mem _ ?_))) (fun _ _ _ h => h) ?_ ?_; (first | exact trivial | omega | decide); clear hF a; intro a hF))
          (first | (refine t_pure (i := 6) hF rfl rfl rfl rfl (by kernel_rfl) (hM.sm.sub (fun x hx => by repeat (first | exact hx | refine List.mem_cons_of_mem _ ?_)) (fun _ h => by repeat (first | exact h | refine List.mem_cons_of_mem _ ?_))) (fun _ _ _ h => h) ?_ ?_; (first | exact trivial | omega | decide); clear hF a; intro a hF))
          (first | (refine t_pure (i := 7) hF rfl rfl rfl rfl (by kernel_rfl) (hM.sm.sub (fun x hx => by repeat (first | exact hx | refine List.mem_cons_of_mem _ ?_)) (fun _ h => by repeat (first | exact h | refine List.mem_cons_of_mem _ ?_))) (fun _ _ _ h => h) ?_ ?_; (first | exact trivial | omega | decide); clear hF a; intro a hF))
          (first | (refine t_pure (i := 8) hF rfl rfl rfl rfl (by kernel_rfl) (hM.sm.sub (fun x hx => by repeat (first | exact hx | refine List.mem_cons_of_mem _ ?_)) (fun _ h => by repeat (first | exact h | refine List.mem_cons_of_mem _ ?_))) (fun _ _ _ h => h) ?_ ?_; (first | exact trivial | omega | decide); clear hF a; intro a hF))
          refine t_one (i := 10) hF rfl (by kernel_rfl) rfl ?_
          intro K hK
          (apply x_store hF hM rfl rfl rfl; (repeat (first | exact Upd.z | apply Upd.s)); exact rfl; exact rfl; exact rfl; clear hF hM a; intro w a hM hF)
          refine hK _ _ (fun _ => (hM.sm.sub (fun x hx => by repeat (first | exact hx | refine List.mem_cons_of_mem _ ?_)) (fun _ h => by repeat (first | exact h | refine List.mem_cons_of_mem _ ?_)))) ?_; clear hK
          (first | (refine t_pure (i := 11) hF rfl rfl rfl rfl (by kernel_rfl) (hM.sm.sub (fun x hx => by repeat (first | exact hx | refine List.mem_cons_of_mem _ ?_)) (fun _ h => by repeat (first | exact h | refine List.mem_cons_of_mem _ ?_))) (fun _ _ _ h => h) ?_ ?_; (first | exact trivial | omega | decide); clear hF a; intro a hF))
          (first | (refine t_pure (i := 12) hF rfl rfl rfl rfl (by kernel_rfl) (hM.sm.sub (fun x hx => by repeat (first | exact hx | refine List.mem_cons_of_mem _ ?_)) (fun _ h => by repeat (first | exact h | refine List.mem_cons_of_mem _ ?_))) (fun _ _ _ h => h) ?_ ?_; (first | exact trivial | omega | decide); clear hF a; intro a hF))
          refine t_done (by kernel_rfl) ?_
          dsimp only at hF hM w3
          (repeat' (first | (with_reducible refine w_seq ?_) | (with_reducible refine c_region ?_) | (with_reducible refine s_nil ?_) | ((with_reducible apply s_call (f := 21) hF hM); exact rfl; exact rfl; exact rfl; exact rfl; exact rfl; exact (eqS_c l l w3 hl8 x6 al _ _ y6 cl rfl rfl (by omega) _ _ hM.lt (hM.facts (RdF (Value.int .u8) x6 l.flatten) (by (repeat (first | with_reducible exact List.mem_cons_self | refine List.mem_cons_of_mem _ ?_)))) (hM.facts (RdF (Value.int .u8) al l.flatten) (by (repeat (first | with_reducible exact List.mem_cons_self | refine List.mem_cons_of_mem _ ?_))))); clear hF hM a; rintro v w a rfl - hM hF; rw [decide_eq_true rfl] at hF) | ((with_reducible apply s_call (f := 13) hF hM); exact rfl; exact rfl; exact rfl; exact rfl; exact rfl; exact (awake_c _ _ hM.lt); clear hF hM a; rintro v w a rfl - hM hF) | (with_reducible refine q_then_n ?_) | ((with_reducible apply s_pure hF); exact rfl; exact rfl; exact rfl; (first | exact trivial | omega | exact ⟨Int.natCast_nonneg _, Int.ofNat_lt.2 (by assumption)⟩ | decide); clear hF a; intro a hF) | (with_reducible refine w_ret ?_)))
          (apply f_ret Try.results9 hF hM; (repeat (first | exact RL.nil | (apply RL.tmp; exact rfl) | (apply RL.cell; exact rfl; (repeat (first | exact List.mem_cons_self | refine List.mem_cons_of_mem _ ?_)); exact rfl))); refine Ret.mk hM.since ?_; dsimp only [resV])
      ·
        intro K hK
        (refine x_alloc hF hM rfl rfl ?_; clear hF hM a; intro b w a hM hF)
        refine hK _ _ (fun _ => (hM.sm.sub (fun x hx => by repeat (first | exact hx | refine List.mem_cons_of_mem _ ?_)) (fun _ h => by repeat (first | exact h | refine List.mem_cons_of_mem _ ?_)))) ?_; clear hK
        refine t_one (i := 3) hF rfl (by kernel_rfl) rfl ?_
        intro K hK
        (apply x_call hF hM; exact rfl; exact rfl; exact rfl; exact rfl; exact (e6 hM.lt (hM.facts (RdF id av (cellsP fd)) (by (repeat (first | with_reducible exact List.mem_cons_self | refine List.mem_cons_of_mem _ ?_)))) (hM.facts (DatF fd) (by (repeat (first | with_reducible exact List.mem_cons_self | refine List.mem_cons_of_mem _ ?_)))) (hM.facts (RdF id x2 (cellsT us)) (by (repeat (first | with_reducible exact List.mem_cons_self | refine List.mem_cons_of_mem _ ?_)))) (hM.facts (DatF (tP us)) (by (repeat (first | with_reducible exact List.mem_cons_self | refine List.mem_cons_of_mem _ ?_))))); clear hF hM a; rintro v w a ⟨x4, y4, rfl, vs, v1, v2, v3, v4, v5⟩ - hM hF)
        replace hM := (hM.addFact v3).addFact v4
        refine hK _ _ (fun _ => (hM.sm.sub (fun x hx => by repeat (first | exact hx | refine List.mem_cons_of_mem _ ?_)) (fun _ h => by repeat (first | exact h | refine List.mem_cons_of_mem _ ?_)))) ?_; clear hK
        refine t_one (i := 4) hF rfl (by kernel_rfl) rfl ?_
        intro K hK
        (apply x_call hF hM; exact rfl; exact rfl; exact rfl; exact rfl; exact (e7 vs x4 y4 v1 v2 hM.lt (hM.facts (RdF id a1 (cellsP qs)) (by (repeat (first | with_reducible exact List.mem_cons_self | refine List.mem_cons_of_mem _ ?_)))) (hM.facts (DatF qs) (by (repeat (first | with_reducible exact List.mem_cons_self | refine List.mem_cons_of_mem _ ?_)))) (hM.facts (RdF id x4 (cellsT vs)) (by (repeat (first | with_reducible exact List.mem_cons_self | refine List.mem_cons_of_mem _ ?_)))) (hM.facts (DatF (tP vs)) (by (repeat (first | with_reducible exact List.mem_cons_self | refine List.mem_cons_of_mem _ ?_))))); clear hF hM a; rintro v w a ⟨x5, y5, x6, y6, rfl, -, w1, w2, w3, w4⟩ - hM hF)
        replace hM := hM.addFact w1
        refine hK _ _ (fun _ => (hM.sm.sub (fun x hx => by repeat (first | exact hx | refine List.mem_cons_of_mem _ ?_)) (fun _ h => by repeat (first | exact h | refine List.mem_cons_of_mem _ ?_)))) ?_; clear hK
        (first | (refine t_pure (i := 5) hF rfl rfl rfl rfl (by kernel_rfl) (hM.sm.sub (fun x hx => by repeat (first | exact hx | refine List.mem_cons_of_mem _ ?_)) (fun _ h => by repeat (first | exact h | refine List.mem_cons_of_mem _ ?_))) (fun _ _ _ h => h) ?_ ?_; (first | exact trivial | omega | decide); clear hF a; intro a hF))
        (first | (refine t_pure (i := 6) hF rfl rfl rfl rfl (by kernel_rfl) (hM.sm.sub (fun x hx => by repeat (first | exact hx | refine List.mem_cons_of_mem _ ?_)) (fun _ h => by repeat (first | exact h | refine List.mem_cons_of_mem _ ?_))) (fun _ _ _ h => h) ?_ ?_; (first | exact trivial | omega | decide); clear hF a; intro a hF))
        (first | (refine t_pure (i := 7) hF rfl rfl rfl rfl (by kernel_rfl) (hM.sm.sub (fun x hx => by repeat (first | exact hx | refine List.mem_cons_of_mem _ ?_)) (fun _ h => by repeat (first | exact h | refine List.mem_cons_of_mem _ ?_))) (fun _ _ _ h => h) ?_ ?_; (first | exact trivial | omega | decide); clear hF a; intro a hF))
        (first | (refine t_pure (i := 8) hF rfl rfl rfl rfl (by kernel_rfl) (hM.sm.sub (fun x hx => by repeat (first | exact hx | refine List.mem_cons_of_mem _ ?_)) (fun _ h => by repeat (first | exact h | refine List.mem_cons_of_mem _ ?_))) (fun _ _ _ h => h) ?_ ?_; (first | exact trivial | omega | decide); clear hF a; intro a hF))
        refine t_one (i := 10) hF rfl (by kernel_rfl) rfl ?_
        intro K hK
        (apply x_store hF hM rfl rfl rfl; (repeat (first | exact Upd.z | apply Upd.s)); exact rfl; exact rfl; exact rfl; clear hF hM a; intro w a hM hF)
        refine hK _ _ (fun _ => (hM.sm.sub (fun x hx => by repeat (first | exact hx | refine List.mem_cons_of_mem _ ?_)) (fun _ h => by repeat (first | exact h | refine List.mem_cons_of_mem _ ?_)))) ?_; clear hK
        (first | (refine t_pure (i := 11) hF rfl rfl rfl rfl (by kernel_rfl) (hM.sm.sub (fun x hx => by repeat (first | exact hx | refine List.mem_cons_of_mem _ ?_)) (fun _ h => by repeat (first | exact h | refine List.mem_cons_of_mem _ ?_))) (fun _ _ _ h => h) ?_ ?_; (first | exact trivial | omega | decide); clear hF a; intro a hF))
        (first | (refine t_pure (i := 12) hF rfl rfl rfl rfl (by kernel_rfl) (hM.sm.sub (fun x hx => by repeat (first | exact hx | refine List.mem_cons_of_mem _ ?_)) (fun _ h => by repeat (first | exact h | refine List.mem_cons_of_mem _ ?_))) (fun _ _ _ h => h) ?_ ?_; (first | exact trivial | omega | decide); clear hF a; intro a hF))
        refine t_done (by kernel_rfl) ?_
        dsimp only at hF hM w3
        (repeat' (first | (with_reducible refine w_seq ?_) | (with_reducible refine c_region ?_) | (with_reducible refine s_nil ?_) | ((with_reducible apply s_call (f := 21) hF hM); exact rfl; exact rfl; exact rfl; exact rfl; exact rfl; exact (eqS_c l l w3 hl8 x6 al _ _ y6 cl rfl rfl (by omega) _ _ hM.lt (hM.facts (RdF (Value.int .u8) x6 l.flatten) (by (repeat (first | with_reducible exact List.mem_cons_self | refine List.mem_cons_of_mem _ ?_)))) (hM.facts (RdF (Value.int .u8) al l.flatten) (by (repeat (first | with_reducible exact List.mem_cons_self | refine List.mem_cons_of_mem _ ?_))))); clear hF hM a; rintro v w a rfl - hM hF; rw [decide_eq_true rfl] at hF) | ((with_reducible apply s_call (f := 13) hF hM); exact rfl; exact rfl; exact rfl; exact rfl; exact rfl; exact (awake_c _ _ hM.lt); clear hF hM a; rintro v w a rfl - hM hF) | (with_reducible refine q_then_n ?_) | ((with_reducible apply s_pure hF); exact rfl; exact rfl; exact rfl; (first | exact trivial | omega | exact ⟨Int.natCast_nonneg _, Int.ofNat_lt.2 (by assumption)⟩ | decide); clear hF a; intro a hF) | (with_reducible refine w_ret ?_)))
        (apply f_ret Try.results9 hF hM; (repeat (first | exact RL.nil | (apply RL.tmp; exact rfl) | (apply RL.cell; exact rfl; (repeat (first | exact List.mem_cons_self | refine List.mem_cons_of_mem _ ?_)); exact rfl))); refine Ret.mk hM.since ?_; dsimp only [resV])
end Go.Proofs.Ytonelgecjmpbgaa

