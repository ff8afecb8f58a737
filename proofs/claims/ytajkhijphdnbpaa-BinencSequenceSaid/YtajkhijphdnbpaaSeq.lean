/- Plain laws: byte strings that are encoded one after the other. -/
import Derived.Test.YtajkhijphdnbpaaUvc
import Derived.Test.YtajkhijphdnbpaaLvar
namespace Go.Proofs.Ytajkhijphdnbpaa
set_option linter.unusedVariables false
/-- How many groups the length of a byte string takes. -/
noncomputable def sz (m : Nat) : Nat := Classical.choose (Grp.ex m)
theorem sz_grp (m : Nat) : Grp m (sz m) := Classical.choose_spec (Grp.ex m)
noncomputable def encP (p : List UInt8) : List UInt8 := uvB p.length (sz p.length) ++ p
noncomputable def encL (ls : List (List UInt8)) : List UInt8 := ls.flatMap encP
theorem encL_append (a b : List (List UInt8)) : encL (a ++ b) = encL a ++ encL b := List.flatMap_append
theorem encL_cons (x : List UInt8) (r : List (List UInt8)) : encL (x :: r) = encP x ++ encL r := List.flatMap_cons
theorem encL_snoc (ls : List (List UInt8)) (k : Nat) (h : k < ls.length) : encL (ls.take (k + 1)) = encL (ls.take k) ++ encP ls[k] := by
  rw [List.take_succ_eq_append_getElem h, encL_append, encL_cons]
  exact congrArg _ (List.append_nil _)
theorem encL_split (ls : List (List UInt8)) (k : Nat) (h : k < ls.length) : encL ls = encL (ls.take k) ++ (encP ls[k] ++ encL (ls.drop (k + 1))) := by
  rw [← encL_cons, ← List.drop_eq_getElem_cons h, ← encL_append, List.take_append_drop]
theorem encP_len {p : List UInt8} (h : p.length ≤ 300) : (encP p).length ≤ 310 := by
  have := (sz_grp p.length).le (by omega)
  simp [encP, uvB_len]
  omega
theorem encL_len : ∀ (ls : List (List UInt8)), (∀ p ∈ ls, p.length ≤ 300) → (encL ls).length ≤ 310 * ls.length
  | [], _ => by simp [encL]
  | p :: r, h => by
    have h1 := encL_len r fun q hq => h q (by simp [hq])
    have h2 := encP_len (h p (by simp))
    have h3 : encL (p :: r) = encP p ++ encL r := by simp [encL]
    rw [h3, List.length_append, List.length_cons]
    omega
/-- What decoding at a string's place yields. -/
theorem seq_uv (h p r : List UInt8) (hp : p.length ≤ 300) : uvR (h ++ (encP p ++ r)) (h.length : Nat) = (p.length, h.length + sz p.length, 0) := by
  have := uvR_enc (sz_grp p.length) (by omega) h (p ++ r)
  unfold encP
  rw [List.append_assoc]
  exact this
theorem seq_ok (h p r : List UInt8) (hp : p.length ≤ 300) (limit : Int) (hl : (p.length : Int) ≤ limit) : bR (h ++ (encP p ++ r)) (h.length : Nat) limit = (p, h.length + (encP p).length, 0) := by
  unfold bR
  have hu := seq_uv h p r hp
  have e1 : (encP p).length = sz p.length + p.length := by simp [encP, uvB_len]
  rw [hu, if_neg (by simp; omega)]
  simp only [ne_eq, not_true_eq_false, if_false]
  rw [if_neg (by omega), if_neg (by simp [e1]; omega)]
  have e2 : (h ++ (encP p ++ r)).drop (h.length + sz p.length) = p ++ r := by
    unfold encP
    rw [List.append_assoc, ← List.append_assoc, List.drop_left' (by simp [uvB_len])]
  rw [e2, List.take_left' rfl, e1, Nat.add_assoc]
theorem seq_small (h p r : List UInt8) (hp : p.length ≤ 300) (h0 : 0 < p.length) : bR (h ++ (encP p ++ r)) (h.length : Nat) ((p.length : Int) - 1) = ([], 0, 15) := by
  unfold bR
  rw [seq_uv h p r hp, if_neg (by simp; omega)]
  simp only [ne_eq, not_true_eq_false, if_false]
  rw [if_pos (by omega)]
theorem seq_none (h p r : List UInt8) (h0 : p.length = 0) : bR (h ++ (encP p ++ r)) (h.length : Nat) ((p.length : Int) - 1) = ([], 0, 6) := by
  unfold bR
  rw [if_pos (by omega)]
end Go.Proofs.Ytajkhijphdnbpaa
