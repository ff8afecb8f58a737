/- Own law for make of a slice of one-cell elements; a row of bytes written cell by cell. -/
import Derived.Test.YtigbmlgllgcbhaaDoorRow
import Derived.Deep.OwnRows
import Derived.Laws.BytesArg
namespace Go.Proofs.YtigbmlgllgcbhaaDoor
set_option linter.unusedVariables false
open Go.RowKit
section
variable {P : Program} {ops : Array Oper} {rest : List Oper} {Q : Exit → Act → World → Prop} {a : Act} {w : World} {dst : Option Tmp} {typ : TypeId} {pos : String} {after : Array Edge}
theorem wp_make {t e : TypeId} {z : Value} {bytes : Nat} {l c : Operand} {kl kc : IntKind} {L C : Int} (n : Nat) (ht : P.underlying t = some (.slice e))
    (hinfo : (P.info? e).map (fun i => (i.zero, i.size, i.bytes)) = some (some z, 1, bytes)) (hz1 : z.cells = #[z]) (hb : bytes * n ≤ 281474976710656) (h63 : n ≤ 9223372036854775807)
    (hl : a.eval l = .int kl L) (hc : a.eval c = .int kc C) (hL : L = (n : Int)) (hC : C = (n : Int))
    (h : ∀ w', Row w' w.heap.size e (List.replicate n z).toArray → Below w.heap.size w w' → wpList P ops Q rest (a.put dst (.slice (some ⟨w.heap.size, 0, none⟩) n n)) w') :
    wpList P ops Q ({ dst := dst, op := .makeSlice t l c, type := typ, pos := pos, after := after, guard := none } :: rest) a w := by
  subst hL
  subst hC
  refine wpList_plain rfl fun K hK => ?_
  have hrun := run_make_row' (P := P) t e z bytes ht hinfo hz1 kl kc n hb h63 w
  have e1 : madeCells #[z] n = (List.replicate n z).toArray := by rw [← toList_madeCells_one]
  rw [e1] at hrun
  unfold Oper.wp
  simp [execOp, hl, hc, hrun, Result.andThen]
  rw [show Array.replicate n z = (List.replicate n z).toArray by simp]
  exact hK _ _ (h _ (Row.born _ _ _) ((Below.refl _ _).alloc (Nat.le_refl _) _))
end
theorem bv_set (pre rest : List UInt8) (y x : UInt8) : ((pre ++ y :: rest).map bv).toArray.setIfInBounds pre.length (bv x) = ((pre ++ x :: rest).map bv).toArray := by
  simp [List.setIfInBounds_toArray]
theorem bv_zeros (n : Nat) : (List.replicate n (.int .u8 0) : List Value) = (List.replicate n (0 : UInt8)).map bv := by simp [bv]
/-- A byte that the walk has computed. -/
theorem bv_nat (n : Nat) (h : n < 256) : Value.int .u8 (n : Int) = bv (UInt8.ofNat n) := by
  unfold bv
  rw [UInt8.toNat_ofNat', Nat.mod_eq_of_lt (by omega)]
/-- A new slice of bytes that the call hands back: its block, known whole. -/
def NewB (W : World) (T : TypeId) (bs : List UInt8) (e : Ending) (w' : World) : Prop :=
  ∃ g m, W.heap.size ≤ g ∧ Hid (m = bs.length) ∧ e = .returned (.slice (some ⟨g, 0, none⟩) m m) ∧ Row w' g T (bs.map bv).toArray ∧ Below W.heap.size W w'
/-- A slice of bytes as a string. -/
theorem run_str {P : Program} {w : World} {src dst e : TypeId} (hs : P.underlying src = some (.slice e)) (he : P.underlying e = some (.int .u8)) (hd : P.underlying dst = some .string)
    {A : Option Addr} {n : Nat} {bs : List UInt8} (c : Nat) (hA : IsB w A n bs) : (convert src dst (.slice A n c)).run P w = .ok (.string ⟨bs.toArray⟩) w := by
  obtain ⟨hn, hc⟩ := hA
  rw [run_convert_bytes_string (P := P) w src dst e A n c hs he hd]
  have hb : ∀ l : List UInt8, (l.map (fun x : UInt8 => (x.toNat : Int))).foldl (fun (r : ByteArray) (n : Int) => r.push (UInt8.ofNat n.toNat)) ByteArray.empty = ⟨l.toArray⟩ := by
    intro l
    have := foldl_push_bytes (l.map (fun x : UInt8 => (x.toNat : Int))) ByteArray.empty
    rw [this]
    simp [ByteArray.empty, ByteArray.emptyWithCapacity, Function.comp_def]
    rfl
  rcases Nat.eq_zero_or_pos n with h0 | h0
  · subst h0
    obtain rfl : bs = [] := List.eq_nil_of_length_eq_zero hn.symm
    cases A with
    | none => rfl
    | some a =>
      have hl : (loadCells a 0).run P w = .ok (([] : List Int).map (Value.int .u8)).toArray w := by rfl
      rw [run_bytesToString w a 0 c [] hl]
      rfl
  · obtain ⟨ad, rfl, hsrc⟩ := IsB.src (A := A) ⟨hn, hc⟩ h0
    have hl := run_loadCells_list (P := P) (w := w) ad (bs.map bv) hsrc
    have e1 : bs.map bv = (bs.map (fun x : UInt8 => (x.toNat : Int))).map (Value.int .u8) := by simp [bv, Function.comp_def]
    rw [List.length_map, ← hn, e1] at hl
    rw [run_bytesToString w _ n c _ hl, hb]
end Go.Proofs.YtigbmlgllgcbhaaDoor
