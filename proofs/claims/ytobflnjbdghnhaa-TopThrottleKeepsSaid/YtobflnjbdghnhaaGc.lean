/- The runner of pure operations. -/
import Derived.Test.YtobflnjbdghnhaaGb
set_option linter.unusedSimpArgs false
set_option linter.unusedVariables false
set_option linter.unusedSectionVars false
namespace Go.Proofs.Ytobflnjbdghnhaa
open Go.RowKit
def unO : UnOp → Value → Option (Value × Prop)
  | .not, .bool b => some (.bool (!b), True)
  | .neg, .int k n => rngO k (0 - n)
  | _, _ => none
def binO (op : BinOp) : Value → Value → Option (Value × Prop)
  | .int k x, .int k' y => match k, k' with
    | .i64, .i64 => intOp op .i64 x y
    | .u64, .u64 => intOp op .u64 x y
    | .u8, .u8 => intOp op .u8 x y
    | .i32, .i32 => intOp op .i32 x y
    | _, _ => none
  | _, _ => none
/-- Cells of a row, as a value of a type. -/
def rdV (T : TypeId) (cs : List Value) (off : Nat) : Option Value :=
  match te T with
  | some ⟨agg, size, _, _, _⟩ => match agg with
    | true => match seg cs off size with
      | some r => some (.agg r.toArray)
      | none => none
    | false => at' cs off
  | none => none
where
  seg : List Value → Nat → Nat → Option (List Value)
    | _, _, 0 => some []
    | [], _, _ + 1 => none
    | c :: cs, 0, n + 1 => match seg cs 0 n with | some r => some (c :: r) | none => none
    | _ :: cs, k + 1, n + 1 => seg cs k (n + 1)
  at' : List Value → Nat → Option Value
    | [], _ => none
    | c :: _, 0 => some c
    | _ :: cs, k + 1 => at' cs k
theorem rdV.at'_eq : ∀ (cs : List Value) (k : Nat), rdV.at' cs k = cs[k]?
  | [], _ => by simp [rdV.at']
  | c :: cs, 0 => by simp [rdV.at']
  | c :: cs, k + 1 => by simp [rdV.at', rdV.at'_eq cs k]
theorem rdV.seg_eq : ∀ {cs : List Value} {k n : Nat} {r : List Value}, rdV.seg cs k n = some r → r = (cs.drop k).take n ∧ r.length = n
  | _, _, 0, r, h => by simp [rdV.seg] at h; subst h; simp
  | [], _, n + 1, r, h => by simp [rdV.seg] at h
  | c :: cs, 0, n + 1, r, h => by
    unfold rdV.seg at h
    split at h
    · rename_i r' hr
      injection h with h; subst h
      have := rdV.seg_eq hr
      constructor
      · rw [this.1]; simp
      · simp [this.2]
    · cases h
  | c :: cs, k + 1, n + 1, r, h => by
    unfold rdV.seg at h
    have := rdV.seg_eq h
    simpa using this
def extO : List Value → Nat → Option Value
  | [], _ => none
  | c :: _, 0 => some c
  | _ :: cs, k + 1 => extO cs k
theorem extO_eq : ∀ (cs : List Value) (k : Nat), extO cs k = cs[k]?
  | [], _ => by simp [extO]
  | c :: cs, 0 => by simp [extO]
  | c :: cs, k + 1 => by simp [extO, extO_eq cs k]
def placesO (fs : List Field) : Option (List (Nat × Nat)) := match fs with
  | [] => some []
  | f :: r => match tyS f.type with
    | some n => match placesO r with
      | some ps => some ((f.offset, n) :: ps)
      | none => none
    | none => none
def getO {α : Type} : List α → Nat → Option α
  | [], _ => none
  | c :: _, 0 => some c
  | _ :: cs, k + 1 => getO cs k
theorem getO_eq {α : Type} : ∀ (cs : List α) (k : Nat), getO cs k = cs[k]?
  | [], _ => by simp [getO]
  | c :: cs, 0 => by simp [getO]
  | c :: cs, k + 1 => by simp [getO, getO_eq cs k]
/-- What a pure operation yields, and what is to be shown for it. -/
def pureO (l : List (Nat × Value)) : Op → Option (Value × Prop)
  | .move x => match ev l x with | some v => some (v, True) | none => none
  | .assign x => match ev l x with | some v => some (v, True) | none => none
  | .pick c x y => match ev l c with
    | some (.bool b) => match ev l x, ev l y with
      | some u, some v => match b with
        | true => some (u, True)
        | false => some (v, True)
      | _, _ => none
    | _ => none
  | .binOp op _ x y _ => match ev l x, ev l y with
    | some u, some v => binO op u v
    | _, _ => none
  | .unOp op _ x => match ev l x with | some u => unO op u | none => none
  | .extract x i => match ev l x with
    | some (.tuple ⟨vs⟩) => match extO vs i with | some v => some (v, True) | none => none
    | _ => none
  | .makeFunc fn ⟨first⟩ ⟨capt⟩ => match evL l first, evL l capt with
    | some f, some c => some (.func fn f.toArray c.toArray, True)
    | _, _ => none
  | .nilCheck x => match ev l x with
    | some (.pointer (some a)) => some (.pointer (some a), True)
    | some (.func (.func f) ⟨fi⟩ ⟨ca⟩) => some (.func (.func f) fi.toArray ca.toArray, True)
    | _ => none
  | .fieldAddr s x i => match tyD s with
    | some (.struct ⟨fs⟩) => match getO fs i with
      | some f => match tyS f.type with
        | some (_ + 1) => match ev l x with
          | some (.pointer (some ⟨b, o, none⟩)) => some (.pointer (some ⟨b, o + f.offset, none⟩), True)
          | some (.pointer (some a)) => some (.pointer (some (a.add f.offset)), True)
          | _ => none
        | _ => none
      | none => none
    | _ => none
  | .field s x i => match tyD s with
    | some (.struct ⟨fs⟩) => match getO fs i with
      | some f => match ev l x with
        | some (.agg ⟨cs⟩) => match rdV f.type cs f.offset with | some v => some (v, True) | none => none
        | _ => none
      | none => none
    | _ => none
  | .indexAddr t x i => match tyD t with
    | some (.slice e) => match tyS e with
      | some n => match ev l x, ev l i with
        | some (.slice (some a) len _), some (.int _ j) => some (.pointer (some (adr a j n)), 0 ≤ j ∧ j < len)
        | _, _ => none
      | none => none
    | some (.array len e) => match tyS e with
      | some n => match i with
        | .const (.int _ (.ofNat j)) => match ev l x with
          | some (.pointer (some ⟨b, o, none⟩)) => some (.pointer (some ⟨b, o + j * n, none⟩), j < len)
          | _ => none
        | .tmp _ => match ev l x, ev l i with
          | some (.pointer (some ⟨b, o, none⟩)), some (.int _ j) => some (.pointer (some (adr ⟨b, o, none⟩ j n)), 0 ≤ j ∧ j < len)
          | _, _ => none
        | _ => none
      | none => none
    | _ => none
  | .convert s d x => match tyD s with
    | some (.int _) => match tyD d with
      | some (.int k) => match ev l x with
        | some (.int _ n) => rngO k n
        | _ => none
      | _ => none
    | _ => none
  | .makeInterface t x => match tyD t with
    | some (.interface _) => none
    | some _ => match ev l x with | some v => some (.iface t v, True) | none => none
    | none => none
  | .call ⟨.builtin b, ⟨args⟩, ⟨ts⟩⟩ => match b with
    | .len => match ts, args with
      | [t], [x] => match tyD t with
        | some (.slice _) => match ev l x with | some (.slice _ n _) => some (.int .i64 (n : Int), True) | _ => none
        | some (.array n _) => some (.int .i64 (n : Int), True)
        | _ => none
      | _, _ => none
    | .max => match evL l args with
      | some [.int k x, .int k' y] => some (.int k (max x y), True)
      | _ => none
    | .min => match evL l args with
      | some [.int k x, .int k' y] => some (.int k (min x y), True)
      | _ => none
    | _ => none
  | .build t ⟨parts⟩ => match te t with
    | some i => match i.desc with
      | .struct ⟨fs⟩ => match placesO fs with
        | some ps => match evP l parts with
          | some vs => match fillL (getO ps) i.zero.cells.toList vs with
            | some cs => some (.agg cs.toArray, True)
            | none => none
          | none => none
        | none => none
      | .array _ e => match tyS e with
        | some n => match evP l parts with
          | some vs => match fillL (fun i => some (i * n, n)) i.zero.cells.toList vs with
            | some cs => some (.agg cs.toArray, True)
            | none => none
          | none => none
        | none => none
      | _ => none
    | none => none
  | .slice t x lo hi mx => match mx with
    | some _ => none
    | none => match tyD t with
      | some (.slice e) => match tyS e with
        | some n => match ev l x with
          | some (.slice a len cap) =>
            match (match lo with | none => some ((0 : Int)) | some o => match ev l o with | some (.int _ z) => some z | _ => none), (match hi with | none => some ((len : Nat) : Int) | some o => match ev l o with | some (.int _ z) => some z | _ => none) with
            | some l', some h' => some (.slice (sadr a l'.toNat cap n) (h'.toNat - l'.toNat) (cap - l'.toNat), 0 ≤ l' ∧ l' ≤ h' ∧ h' ≤ (cap : Int) ∧ 0 ≤ h')
            | _, _ => none
          | _ => none
        | none => none
      | _ => none
  | _ => none
end Go.Proofs.Ytobflnjbdghnhaa
