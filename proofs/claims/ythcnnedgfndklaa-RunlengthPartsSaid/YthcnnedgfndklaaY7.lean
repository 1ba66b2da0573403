/- Layer 5's examples. -/
import Derived.Test.YthcnnedgfndklaaY6
set_option linter.unusedSimpArgs false
set_option linter.unusedVariables false
set_option linter.unusedSectionVars false
namespace Go.Proofs.Ythcnnedgfndklaa
open Go.RowKit Go.Shelf
def putsF : Nat → Nat → List Int
  | 0, n => [(n : Int)]
  | f + 1, n => if n < 128 then [(n : Int)] else ((n % 128 + 128 : Nat) : Int) :: putsF f (n / 128)
theorem puts_F : ∀ (f n : Nat), n < 128 ^ (f + 1) → puts n = putsF f n
  | 0, n, h => by rw [puts_lt (by omega), putsF]
  | f + 1, n, h => by
    rw [putsF]
    split
    · rename_i h1; exact puts_lt h1
    · rename_i h1
      rw [puts_ge h1, puts_F f (n / 128) (by rw [Nat.pow_succ] at h; omega)]
def encV (l : List (List Int)) : List Int := (grp l).flatMap fun (i : Fin l.length) => putsF 2 (4 * (nx l i).2 + (nx l i).1) ++ encS l i
theorem flatMap_congr' {α β : Type} {f g : α → List β} : ∀ (l : List α), (∀ x ∈ l, f x = g x) → l.flatMap f = l.flatMap g
  | [], _ => rfl
  | x :: l, h => by rw [List.flatMap_cons, List.flatMap_cons, h x (by simp), flatMap_congr' l fun y hy => h y (by simp [hy])]
theorem enc_V (l : List (List Int)) (h : l.length ≤ 30000) : enc l = encV l := by
  unfold enc encV
  refine flatMap_congr' _ fun i _ => ?_
  unfold encG
  have h1 := nx_le i.2
  have h2 := nx_kind (l := l) (i := i)
  rw [puts_F 2 _ (by omega)]
theorem decF_good {most : Nat} : ∀ {f : Nat} {xs : List Int} {ls ls' : List (List Int)}, decF most f xs ls = .ok ls' → (ls.length ≤ most → ls'.length ≤ most) ∧ (W8 ls → W8 ls') ∧ (By xs → B8 ls → B8 ls')
  | 0, xs, ls, ls', h => by
    rw [decF] at h
    injection h with h
    subst h
    exact ⟨id, id, fun _ => id⟩
  | f + 1, xs, ls, ls', h => by
    rw [decF] at h
    split at h
    · injection h with h
      subst h
      exact ⟨id, id, fun _ => id⟩
    · split at h
      · cases h
      · rename_i zs ls2 hg
        obtain ⟨k, h1, h2, rfl, h4, h5, h6, h7⟩ := grpD_ok hg
        obtain ⟨i1, i2, i3⟩ := decF_good h
        exact ⟨fun _ => i1 h4, fun h => i2 (h6 h), fun hx hb => i3 (hx.drop _) (h7 hx hb)⟩
def decV (most : Nat) (b : List Int) : Except Int (List (List Int)) := match decF most b.length b [] with
  | .error e => .error e
  | .ok ls => if encV ls = b then .ok ls else .error 3
theorem dec_V (most : Nat) (b : List Int) (h : most ≤ 4096) : dec most b = decV most b := by
  unfold dec decV
  cases hd : decF most b.length b [] with
  | error e => rfl
  | ok ls =>
    have := (decF_good hd).1 (by simp)
    simp only
    rw [enc_V ls (by omega)]
theorem dec_good {most : Nat} {b : List Int} {ls : List (List Int)} (h : dec most b = .ok ls) : ls.length ≤ most ∧ W8 ls ∧ (By b → B8 ls) ∧ enc ls = b := by
  unfold dec at h
  cases hd : decF most b.length b [] with
  | error e => rw [hd] at h; cases h
  | ok l2 =>
    rw [hd] at h
    simp only at h
    split at h
    · rename_i he
      injection h with h
      subst h
      obtain ⟨h1, h2, h3⟩ := decF_good hd
      exact ⟨h1 (by simp), h2 (by intro y hy; cases hy), fun hb => h3 hb (by intro y hy; cases hy), he⟩
    · cases h
section
variable {own : Nat → Prop} {W : World} (hl : ∀ b, own b → b < W.heap.size)
include hl
theorem Encode_e {y : List Int} (l : List (List Int)) (he : enc l = y) (hw : W8 l) (hlen : l.length ≤ 30000) (a0 : Option Addr) (n c0 : Nat) (hn : l.length = n) (hc0 : n ≤ c0) (hv : Has own W (RdF (Value.int .u8) a0 l.flatten)) :
    Calls Try.prog 11 ⟨[.slice a0 n c0]⟩ W (Ret W (Sl (Value.int .u8) own y y.length)) := he ▸ Encode_f hl l hw hlen a0 n c0 hn hc0 hv
theorem Size_e {y : List Int} {k : Nat} (l : List (List Int)) (he : enc l = y) (hk : y.length = k) (hw : W8 l) (hlen : l.length ≤ 30000) (a0 : Option Addr) (n c0 : Nat) (hn : l.length = n) (hc0 : n ≤ c0) (hv : Has own W (RdF (Value.int .u8) a0 l.flatten)) :
    Calls Try.prog 14 ⟨[.slice a0 n c0]⟩ W (Ret W fun v _ => v = .int .i64 k) := hk ▸ he ▸ Size_f hl l hw hlen a0 n c0 hn hc0 hv
theorem equalB_t {xs ys : List Int} (hx : By xs) (he : xs = ys) (a1 a2 : Option Addr) (m1 m2 c1 c2 : Nat) (h1 : xs.length = m1) (h2 : ys.length = m2) (hv1 : Has own W (RdF (Value.int .u8) a1 xs)) (hv2 : Has own W (RdF (Value.int .u8) a2 ys)) :
    Calls Try.prog 12 ⟨[.slice a1 m1 c1, .slice a2 m2 c2]⟩ W (Ret W fun v _ => v = .bool true) := by
  have := equalB_c xs ys hx (he ▸ hx) a1 a2 m1 m2 c1 c2 h1 h2 own W hl hv1 hv2
  rw [decide_eq_true he] at this
  exact this
theorem SameS_t {l m : List (List Int)} (hw : W8 l) (he : l = m) (a1 a2 : Option Addr) (q1 q2 c1 c2 : Nat) (h1 : l.length = q1) (h2 : m.length = q2) (hq : q1 ≤ 1000000) (hv1 : Has own W (RdF (Value.int .u8) a1 l.flatten)) (hv2 : Has own W (RdF (Value.int .u8) a2 m.flatten)) :
    Calls Try.prog 17 ⟨[.slice a1 q1 c1, .slice a2 q2 c2]⟩ W (Ret W fun v _ => v = .bool true) := by
  have := SameS_c l m hw (he ▸ hw) a1 a2 q1 q2 c1 c2 h1 h2 hq own W hl hv1 hv2
  rw [decide_eq_true he] at this
  exact this
end
abbrev E1 : List Int := [13, 1, 0, 0, 0, 0, 0, 0, 0, 8, 2, 0, 0, 0, 0, 0, 0, 0, 3, 0, 0, 0, 0, 0, 0, 0, 10]
abbrev E2 : List Int := [4, 2, 0, 0, 0, 0, 0, 0, 0, 9, 3, 0, 0, 0, 0, 0, 0, 0]
abbrev S1 : List Int := [1, 1, 1, 2, 3, 0, 0]
theorem ex1 : enc (S1.map sec) = E1 := (enc_V _ (by decide)).trans (by decide +kernel)
theorem ex2 : enc (([2, 3, 3] : List Int).map sec) = E2 := (enc_V _ (by decide)).trans (by decide +kernel)
theorem ex3 : enc (([0] : List Int).map sec) = [6] := (enc_V _ (by decide)).trans (by decide +kernel)
theorem ex4 : dec (mst 9) (encO [8, -2, -2]) = .error 3 := (dec_V _ _ (by decide)).trans (by kernel_rfl)
theorem ex5 : dec (mst 9) (encO [6, 6]) = .error 3 := (dec_V _ _ (by decide)).trans (by kernel_rfl)
theorem ex6 : dec (mst 1) (encO [10]) = .error 5 := (dec_V _ _ (by decide)).trans (by kernel_rfl)
theorem ex7 : dec (mst 9) (encO [5, -1]) = .error 3 := (dec_V _ _ (by decide)).trans (by kernel_rfl)
theorem ex8 : dec (mst 7) E1 = .ok (S1.map sec) := (dec_V _ _ (by decide)).trans (by kernel_rfl)
theorem By_dec {xs : List Int} (h : (xs.all fun x => decide (0 ≤ x) && decide (x < 256)) = true) : By xs := by
  intro x hx
  have := List.all_eq_true.1 h x hx
  simpa using this
theorem sec_W8 (l : List Int) : W8 (l.map sec) := by
  intro y hy
  obtain ⟨x, _, rfl⟩ := List.mem_map.1 hy
  rfl
section
variable {own : Nat → Prop} {W : World} {a0 : Option Addr} {n c0 : Nat}
theorem sectors_g {xs : List Int} (hv : Has own W (RdF (Value.int .u8) a0 xs)) (hn : xs.length = n) (hlen : n ≤ 1000) (hl : ∀ b, own b → b < W.heap.size) :
    Calls Try.prog 21 ⟨[.slice a0 n c0]⟩ W (Ret W (Sl (Value.int .u8) own (xs.map sec).flatten n)) := sectors_c xs (by omega) a0 n c0 hn own W hl hv
theorem encoded_g {xs : List Int} (hv : Has own W (RdF (Value.int .i64) a0 xs)) (hn : xs.length = n) (hns : (xs.all fun n => decide (-255 ≤ n) && decide (n ≤ 255)) = true) (hlen : n ≤ 1000) (hl : ∀ b, own b → b < W.heap.size) :
    Calls Try.prog 22 ⟨[.slice a0 n c0]⟩ W (Ret W (Sl (Value.int .u8) own (encO xs) (encO xs).length)) := encoded_c xs (fun x hx => by have := List.all_eq_true.1 hns x hx; simpa using this) (by omega) a0 n c0 hn own W hl hv
theorem Encode_g {xs y : List Int} (hv : Has own W (RdF (Value.int .u8) a0 (xs.map sec).flatten)) (he : enc (xs.map sec) = y) (hn : xs.length = n) (hlen : n ≤ 1000) (hc : n ≤ c0) (hl : ∀ b, own b → b < W.heap.size) :
    Calls Try.prog 11 ⟨[.slice a0 n c0]⟩ W (Ret W (Sl (Value.int .u8) own y y.length)) := Encode_e hl (xs.map sec) he (sec_W8 _) (by rw [List.length_map]; omega) a0 n c0 (by rw [List.length_map]; exact hn) hc hv
theorem Size_g {xs y : List Int} {k : Nat} (hv : Has own W (RdF (Value.int .u8) a0 (xs.map sec).flatten)) (he : enc (xs.map sec) = y) (hk : y.length = k) (hn : xs.length = n) (hlen : n ≤ 1000) (hc : n ≤ c0) (hl : ∀ b, own b → b < W.heap.size) :
    Calls Try.prog 14 ⟨[.slice a0 n c0]⟩ W (Ret W fun v _ => v = .int .i64 k) := Size_e hl (xs.map sec) he hk (sec_W8 _) (by rw [List.length_map]; omega) a0 n c0 (by rw [List.length_map]; exact hn) hc hv
theorem Decode_g {xs : List Int} {e : Int} {most : Int} (hv : Has own W (RdF (Value.int .u8) a0 xs)) (he : dec (mst most) xs = .error e) (hn : xs.length = n) (hb : (xs.all fun x => decide (0 ≤ x) && decide (x < 256)) = true) (hlen : n ≤ 1000) (hc : n ≤ c0) (hl : ∀ b, own b → b < W.heap.size) :
    Calls Try.prog 15 ⟨[.slice a0 n c0, .int .i64 most]⟩ W (Ret W fun v _ => v = .tuple #[.slice none 0 0, .int .i64 e]) := decf_err (Decode_f hl xs (By_dec hb) (by omega) most a0 n c0 hn hc hv) he
theorem Decode_h {xs ys : List Int} {most : Int} (hv : Has own W (RdF (Value.int .u8) a0 xs)) (he : dec (mst most) xs = .ok (ys.map sec)) (hn : xs.length = n) (hb : (xs.all fun x => decide (0 ≤ x) && decide (x < 256)) = true) (hlen : n ≤ 1000) (hc : n ≤ c0) (hl : ∀ b, own b → b < W.heap.size) :
    Calls Try.prog 15 ⟨[.slice a0 n c0, .int .i64 most]⟩ W (Ret W fun v w' => ∃ a' c', v = .tuple #[.slice a' ys.length c', .int .i64 0] ∧ ys.length ≤ c' ∧ Has own w' (RdF (Value.int .u8) a' (ys.map sec).flatten)) := by
  have := decf_ok (Decode_f hl xs (By_dec hb) (by omega) most a0 n c0 hn hc hv) he
  simpa only [List.length_map] using this
theorem Equal_g {a1 : Option Addr} {m c1 : Nat} {xs ys : List Int} (hv1 : Has own W (RdF (Value.int .u8) a0 xs)) (hv2 : Has own W (RdF (Value.int .u8) a1 ys)) (he : xs = ys) (h1 : xs.length = n) (h2 : ys.length = m) (hb : (xs.all fun x => decide (0 ≤ x) && decide (x < 256)) = true) (hl : ∀ b, own b → b < W.heap.size) :
    Calls Try.prog 12 ⟨[.slice a0 n c0, .slice a1 m c1]⟩ W (Ret W fun v _ => v = .bool true) := equalB_t hl (By_dec hb) he a0 a1 n m c0 c1 h1 h2 hv1 hv2
theorem SameS_g {a1 : Option Addr} {m c1 : Nat} {xs ys : List Int} (hv1 : Has own W (RdF (Value.int .u8) a0 (xs.map sec).flatten)) (hv2 : Has own W (RdF (Value.int .u8) a1 (ys.map sec).flatten)) (he : xs = ys) (h1 : xs.length = n) (h2 : ys.length = m) (hq : n ≤ 1000) (hl : ∀ b, own b → b < W.heap.size) :
    Calls Try.prog 17 ⟨[.slice a0 n c0, .slice a1 m c1]⟩ W (Ret W fun v _ => v = .bool true) := by
  subst he
  exact SameS_t hl (sec_W8 xs) rfl a0 a1 n m c0 c1 (by rw [List.length_map]; exact h1) (by rw [List.length_map]; exact h2) (by omega) hv1 hv2
end
set_option maxRecDepth 40000 in
theorem awake_c (own : Nat → Prop) (W : World) (hl : ∀ b, own b → b < W.heap.size) : Calls Try.prog 10 ⟨[]⟩ W (Ret W fun v _ => v = .bool true) := by
  have hM := Mm.start hl
  refine f_start Try.func10 rfl Try.ntmps10 rfl rfl ?_; intro a hF
  (repeat (first | (with_reducible refine w_seq ?_) | (with_reducible refine c_region ?_) | (with_reducible refine s_nil ?_) | ((with_reducible apply s_lit hF hM); exact rfl; exact rfl; exact rfl; exact rfl; clear hF hM a; intro bl w a hM hF; replace hM := Mm.freeze hM) | (with_reducible refine q_then_n ?_) | ((with_reducible apply s_pure hF); exact rfl; exact rfl; exact rfl; (first | exact trivial | omega | decide); clear hF a; intro a hF)))
  replace hM := hM.addFact (Has.lit (hM.facts _ List.mem_cons_self) (S1 : List Int) rfl)
  (repeat (first | (with_reducible refine w_seq ?_) | (with_reducible refine c_region ?_) | (with_reducible refine s_nil ?_) | ((with_reducible apply s_lit hF hM); exact rfl; exact rfl; exact rfl; exact rfl; clear hF hM a; intro bl w a hM hF; replace hM := Mm.freeze hM) | ((with_reducible apply s_call (f := 21) hF hM); exact rfl; exact rfl; exact rfl; exact rfl; exact rfl; exact (sectors_g (hM.facts _ (by with_reducible (repeat (first | exact List.mem_cons_self | refine List.mem_cons_of_mem _ ?_)))) (by exact rfl) (by decide) hM.lt); clear hF hM a; rintro v w a ⟨a', c', rfl, hc, hx⟩ - hM hF; replace hM := hM.addFact hx) | ((with_reducible apply s_call (f := 11) hF hM); exact rfl; exact rfl; exact rfl; exact rfl; exact rfl; exact (Encode_g (hM.facts _ (by with_reducible (repeat (first | exact List.mem_cons_self | refine List.mem_cons_of_mem _ ?_)))) (by with_reducible first | exact ex1 | exact ex2) (by exact rfl) (by decide) (by omega) hM.lt); clear hF hM a; rintro v w a ⟨a', c', rfl, hc, hx⟩ - hM hF; replace hM := hM.addFact hx) | (with_reducible refine q_then_n ?_) | ((with_reducible apply s_pure hF); exact rfl; exact rfl; exact rfl; (first | exact trivial | omega | decide); clear hF a; intro a hF)))
  replace hM := hM.addFact (Has.lit (hM.facts _ List.mem_cons_self) ([2, 3, 3] : List Int) rfl)
  (repeat (first | (with_reducible refine w_seq ?_) | (with_reducible refine c_region ?_) | (with_reducible refine s_nil ?_) | ((with_reducible apply s_lit hF hM); exact rfl; exact rfl; exact rfl; exact rfl; clear hF hM a; intro bl w a hM hF; replace hM := Mm.freeze hM) | ((with_reducible apply s_call (f := 21) hF hM); exact rfl; exact rfl; exact rfl; exact rfl; exact rfl; exact (sectors_g (hM.facts _ (by with_reducible (repeat (first | exact List.mem_cons_self | refine List.mem_cons_of_mem _ ?_)))) (by exact rfl) (by decide) hM.lt); clear hF hM a; rintro v w a ⟨a', c', rfl, hc, hx⟩ - hM hF; replace hM := hM.addFact hx) | ((with_reducible apply s_call (f := 11) hF hM); exact rfl; exact rfl; exact rfl; exact rfl; exact rfl; exact (Encode_g (hM.facts _ (by with_reducible (repeat (first | exact List.mem_cons_self | refine List.mem_cons_of_mem _ ?_)))) (by with_reducible first | exact ex1 | exact ex2) (by exact rfl) (by decide) (by omega) hM.lt); clear hF hM a; rintro v w a ⟨a', c', rfl, hc, hx⟩ - hM hF; replace hM := hM.addFact hx) | (with_reducible refine q_then_n ?_) | ((with_reducible apply s_pure hF); exact rfl; exact rfl; exact rfl; (first | exact trivial | omega | decide); clear hF a; intro a hF)))
  replace hM := hM.addFact (Has.lit (hM.facts _ List.mem_cons_self) ([8, -2, -2] : List Int) rfl)
  (repeat (first | (with_reducible refine w_seq ?_) | (with_reducible refine c_region ?_) | (with_reducible refine s_nil ?_) | ((with_reducible apply s_lit hF hM); exact rfl; exact rfl; exact rfl; exact rfl; clear hF hM a; intro bl w a hM hF; replace hM := Mm.freeze hM) | ((with_reducible apply s_call (f := 22) hF hM); exact rfl; exact rfl; exact rfl; exact rfl; exact rfl; exact (encoded_g (hM.facts _ (by with_reducible (repeat (first | exact List.mem_cons_self | refine List.mem_cons_of_mem _ ?_)))) (by exact rfl) (by exact rfl) (by decide) hM.lt); clear hF hM a; rintro v w a ⟨a', c', rfl, hc, hx⟩ - hM hF; replace hM := hM.addFact hx) | ((with_reducible apply s_call (f := 15) hF hM); exact rfl; exact rfl; exact rfl; exact rfl; exact rfl; exact (Decode_g (hM.facts _ (by with_reducible (repeat (first | exact List.mem_cons_self | refine List.mem_cons_of_mem _ ?_)))) (by with_reducible first | exact ex4 | exact ex5 | exact ex6 | exact ex7) (by exact rfl) (by exact rfl) (by decide) (by omega) hM.lt); clear hF hM a; rintro v w a rfl - hM hF) | (with_reducible refine q_then_n ?_) | ((with_reducible apply s_pure hF); exact rfl; exact rfl; exact rfl; (first | exact trivial | omega | decide); clear hF a; intro a hF)))
  replace hM := hM.addFact (Has.lit (hM.facts _ List.mem_cons_self) ([6, 6] : List Int) rfl)
  (repeat (first | (with_reducible refine w_seq ?_) | (with_reducible refine c_region ?_) | (with_reducible refine s_nil ?_) | ((with_reducible apply s_lit hF hM); exact rfl; exact rfl; exact rfl; exact rfl; clear hF hM a; intro bl w a hM hF; replace hM := Mm.freeze hM) | ((with_reducible apply s_call (f := 22) hF hM); exact rfl; exact rfl; exact rfl; exact rfl; exact rfl; exact (encoded_g (hM.facts _ (by with_reducible (repeat (first | exact List.mem_cons_self | refine List.mem_cons_of_mem _ ?_)))) (by exact rfl) (by exact rfl) (by decide) hM.lt); clear hF hM a; rintro v w a ⟨a', c', rfl, hc, hx⟩ - hM hF; replace hM := hM.addFact hx) | ((with_reducible apply s_call (f := 15) hF hM); exact rfl; exact rfl; exact rfl; exact rfl; exact rfl; exact (Decode_g (hM.facts _ (by with_reducible (repeat (first | exact List.mem_cons_self | refine List.mem_cons_of_mem _ ?_)))) (by with_reducible first | exact ex4 | exact ex5 | exact ex6 | exact ex7) (by exact rfl) (by exact rfl) (by decide) (by omega) hM.lt); clear hF hM a; rintro v w a rfl - hM hF) | (with_reducible refine q_then_n ?_) | ((with_reducible apply s_pure hF); exact rfl; exact rfl; exact rfl; (first | exact trivial | omega | decide); clear hF a; intro a hF)))
  replace hM := hM.addFact (Has.lit (hM.facts _ List.mem_cons_self) ([10] : List Int) rfl)
  (repeat (first | (with_reducible refine w_seq ?_) | (with_reducible refine c_region ?_) | (with_reducible refine s_nil ?_) | ((with_reducible apply s_lit hF hM); exact rfl; exact rfl; exact rfl; exact rfl; clear hF hM a; intro bl w a hM hF; replace hM := Mm.freeze hM) | ((with_reducible apply s_call (f := 22) hF hM); exact rfl; exact rfl; exact rfl; exact rfl; exact rfl; exact (encoded_g (hM.facts _ (by with_reducible (repeat (first | exact List.mem_cons_self | refine List.mem_cons_of_mem _ ?_)))) (by exact rfl) (by exact rfl) (by decide) hM.lt); clear hF hM a; rintro v w a ⟨a', c', rfl, hc, hx⟩ - hM hF; replace hM := hM.addFact hx) | ((with_reducible apply s_call (f := 15) hF hM); exact rfl; exact rfl; exact rfl; exact rfl; exact rfl; exact (Decode_g (hM.facts _ (by with_reducible (repeat (first | exact List.mem_cons_self | refine List.mem_cons_of_mem _ ?_)))) (by with_reducible first | exact ex4 | exact ex5 | exact ex6 | exact ex7) (by exact rfl) (by exact rfl) (by decide) (by omega) hM.lt); clear hF hM a; rintro v w a rfl - hM hF) | (with_reducible refine q_then_n ?_) | ((with_reducible apply s_pure hF); exact rfl; exact rfl; exact rfl; (first | exact trivial | omega | decide); clear hF a; intro a hF)))
  replace hM := hM.addFact (Has.lit (hM.facts _ List.mem_cons_self) ([5, -1] : List Int) rfl)
  (repeat (first | (with_reducible refine w_seq ?_) | (with_reducible refine c_region ?_) | (with_reducible refine s_nil ?_) | ((with_reducible apply s_lit hF hM); exact rfl; exact rfl; exact rfl; exact rfl; clear hF hM a; intro bl w a hM hF; replace hM := Mm.freeze hM) | ((with_reducible apply s_call (f := 22) hF hM); exact rfl; exact rfl; exact rfl; exact rfl; exact rfl; exact (encoded_g (hM.facts _ (by with_reducible (repeat (first | exact List.mem_cons_self | refine List.mem_cons_of_mem _ ?_)))) (by exact rfl) (by exact rfl) (by decide) hM.lt); clear hF hM a; rintro v w a ⟨a', c', rfl, hc, hx⟩ - hM hF; replace hM := hM.addFact hx) | ((with_reducible apply s_call (f := 15) hF hM); exact rfl; exact rfl; exact rfl; exact rfl; exact rfl; exact (Decode_g (hM.facts _ (by with_reducible (repeat (first | exact List.mem_cons_self | refine List.mem_cons_of_mem _ ?_)))) (by with_reducible first | exact ex4 | exact ex5 | exact ex6 | exact ex7) (by exact rfl) (by exact rfl) (by decide) (by omega) hM.lt); clear hF hM a; rintro v w a rfl - hM hF) | ((with_reducible apply s_call (f := 15) hF hM); exact rfl; exact rfl; exact rfl; exact rfl; exact rfl; exact (Decode_h (hM.facts _ (by with_reducible (repeat (first | exact List.mem_cons_self | refine List.mem_cons_of_mem _ ?_)))) (by with_reducible exact ex8) (by exact rfl) (by exact rfl) (by decide) (by omega) hM.lt); clear hF hM a; rintro v w a ⟨a', c', rfl, hc, hx⟩ - hM hF; replace hM := hM.addFact hx) | (with_reducible refine q_then_n ?_) | ((with_reducible apply s_pure hF); exact rfl; exact rfl; exact rfl; (first | exact trivial | omega | decide); clear hF a; intro a hF)))
  replace hM := hM.addFact (Has.lit (hM.facts _ List.mem_cons_self) ([13, -1, 8, -2, -3, 10] : List Int) rfl)
  (repeat (first | ((with_reducible apply s_lit hF hM); exact rfl; exact rfl; exact rfl; exact rfl; clear hF hM a; intro bl w a hM hF; replace hM := Mm.freeze hM) | ((with_reducible apply s_call (f := 22) hF hM); exact rfl; exact rfl; exact rfl; exact rfl; exact rfl; exact (encoded_g (hM.facts _ (by with_reducible (repeat (first | exact List.mem_cons_self | refine List.mem_cons_of_mem _ ?_)))) (by exact rfl) (by exact rfl) (by decide) hM.lt); clear hF hM a; rintro v w a ⟨a', c', rfl, hc, hx⟩ - hM hF; replace hM := hM.addFact hx) | ((with_reducible apply s_call (f := 12) hF hM); exact rfl; exact rfl; exact rfl; exact rfl; exact rfl; exact (Equal_g (hM.facts _ (by with_reducible (repeat (first | exact List.mem_cons_self | refine List.mem_cons_of_mem _ ?_)))) (hM.facts _ (by with_reducible (repeat (first | exact List.mem_cons_self | refine List.mem_cons_of_mem _ ?_)))) (by exact rfl) (by exact rfl) (by exact rfl) (by exact rfl) hM.lt); clear hF hM a; rintro v w a rfl - hM hF) | ((with_reducible apply s_pure hF); exact rfl; exact rfl; exact rfl; (first | exact trivial | omega | decide); clear hF a; intro a hF)))
  replace hM := hM.addFact (Has.lit (hM.facts _ List.mem_cons_self) ([4, -2, 9, -3] : List Int) rfl)
  (repeat (first | ((with_reducible apply s_lit hF hM); exact rfl; exact rfl; exact rfl; exact rfl; clear hF hM a; intro bl w a hM hF; replace hM := Mm.freeze hM) | ((with_reducible apply s_call (f := 22) hF hM); exact rfl; exact rfl; exact rfl; exact rfl; exact rfl; exact (encoded_g (hM.facts _ (by with_reducible (repeat (first | exact List.mem_cons_self | refine List.mem_cons_of_mem _ ?_)))) (by exact rfl) (by exact rfl) (by decide) hM.lt); clear hF hM a; rintro v w a ⟨a', c', rfl, hc, hx⟩ - hM hF; replace hM := hM.addFact hx) | ((with_reducible apply s_call (f := 12) hF hM); exact rfl; exact rfl; exact rfl; exact rfl; exact rfl; exact (Equal_g (hM.facts _ (by with_reducible (repeat (first | exact List.mem_cons_self | refine List.mem_cons_of_mem _ ?_)))) (hM.facts _ (by with_reducible (repeat (first | exact List.mem_cons_self | refine List.mem_cons_of_mem _ ?_)))) (by exact rfl) (by exact rfl) (by exact rfl) (by exact rfl) hM.lt); clear hF hM a; rintro v w a rfl - hM hF) | ((with_reducible apply s_pure hF); exact rfl; exact rfl; exact rfl; (first | exact trivial | omega | decide); clear hF a; intro a hF)))
  replace hM := hM.addFact (Has.lit (hM.facts _ List.mem_cons_self) ([0] : List Int) rfl)
  (repeat (first | (with_reducible refine w_seq ?_) | (with_reducible refine c_region ?_) | (with_reducible refine s_nil ?_) | ((with_reducible apply s_lit hF hM); exact rfl; exact rfl; exact rfl; exact rfl; clear hF hM a; intro bl w a hM hF; replace hM := Mm.freeze hM) | ((with_reducible apply s_call (f := 21) hF hM); exact rfl; exact rfl; exact rfl; exact rfl; exact rfl; exact (sectors_g (hM.facts _ (by with_reducible (repeat (first | exact List.mem_cons_self | refine List.mem_cons_of_mem _ ?_)))) (by exact rfl) (by decide) hM.lt); clear hF hM a; rintro v w a ⟨a', c', rfl, hc, hx⟩ - hM hF; replace hM := hM.addFact hx) | ((with_reducible apply s_call (f := 14) hF hM); exact rfl; exact rfl; exact rfl; exact rfl; exact rfl; exact (Size_g (hM.facts _ (by with_reducible (repeat (first | exact List.mem_cons_self | refine List.mem_cons_of_mem _ ?_)))) (by with_reducible exact ex3) (by exact rfl) (by exact rfl) (by decide) (by omega) hM.lt); clear hF hM a; rintro v w a rfl - hM hF) | (with_reducible refine q_then_n ?_) | ((with_reducible apply s_pure hF); exact rfl; exact rfl; exact rfl; (first | exact trivial | omega | decide); clear hF a; intro a hF)))
  replace hM := hM.addFact (Has.lit (hM.facts _ List.mem_cons_self) (S1 : List Int) rfl)
  (repeat (first | (with_reducible refine s_nil ?_) | ((with_reducible apply s_call (f := 21) hF hM); exact rfl; exact rfl; exact rfl; exact rfl; exact rfl; exact (sectors_g (hM.facts _ (by with_reducible (repeat (first | exact List.mem_cons_self | refine List.mem_cons_of_mem _ ?_)))) (by exact rfl) (by decide) hM.lt); clear hF hM a; rintro v w a ⟨a', c', rfl, hc, hx⟩ - hM hF; replace hM := hM.addFact hx) | ((with_reducible apply s_call (f := 17) hF hM); exact rfl; exact rfl; exact rfl; exact rfl; exact rfl; exact (SameS_g (hM.facts _ (by with_reducible (repeat (first | exact List.mem_cons_self | refine List.mem_cons_of_mem _ ?_)))) (hM.facts _ (by with_reducible (repeat (first | exact List.mem_cons_self | refine List.mem_cons_of_mem _ ?_)))) (by exact rfl) (by exact rfl) (by exact rfl) (by decide) hM.lt); clear hF hM a; rintro v w a rfl - hM hF) | (with_reducible refine q_then_n ?_) | ((with_reducible apply s_pure hF); exact rfl; exact rfl; exact rfl; (first | exact trivial | omega | decide); clear hF a; intro a hF) | (with_reducible refine w_ret ?_)))
  (apply f_ret Try.results10 hF hM; (repeat (first | exact RL.nil | (apply RL.tmp; exact rfl) | (apply RL.cell; exact rfl; (repeat (first | exact List.mem_cons_self | refine List.mem_cons_of_mem _ ?_)); exact rfl))); refine Ret.mk hM.since ?_; dsimp only [resV])
end Go.Proofs.Ythcnnedgfndklaa
