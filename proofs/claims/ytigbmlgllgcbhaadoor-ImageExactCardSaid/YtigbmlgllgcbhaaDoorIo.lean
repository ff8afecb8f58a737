/- Image, in plain words: what Parse reads. -/
import Derived.Test.YtigbmlgllgcbhaaDoorIg
import Derived.Test.YtigbmlgllgcbhaaDoorIk
namespace Go.Proofs.YtigbmlgllgcbhaaDoor
open Go.RowKit
set_option linter.unusedVariables false
set_option linter.unusedSimpArgs false
def cntN (bs : List UInt8) : Nat := leN (seg bs 6 2)
def offN (bs : List UInt8) (k : Nat) : Nat := leN (seg bs (16 + 48 * k + 32) 4)
def sizN (bs : List UInt8) (k : Nat) : Nat := leN (seg bs (16 + 48 * k + 36) 4)
def rdOk (bs : List UInt8) (k : Nat) : Prop := offN bs k ≤ bs.length ∧ sizN bs k ≤ bs.length - offN bs k
instance (bs : List UInt8) (k : Nat) : Decidable (rdOk bs k) := by unfold rdOk; infer_instance
def rdM (bs : List UInt8) (k : Nat) : Md := ⟨Lib.trimRightB (seg bs (16 + 48 * k) 24) 0, ((bs.getD (16 + 48 * k + 24) 0).toNat : Int), ((bs.getD (16 + 48 * k + 25) 0).toNat : Int), (leN (seg bs (16 + 48 * k + 28) 4) : Int), seg bs (offN bs k) (sizN bs k)⟩
def rdMs (bs : List UInt8) (n : Nat) : List Md := (List.range n).map (rdM bs)
theorem rdMs_len (bs : List UInt8) (n : Nat) : (rdMs bs n).length = n := by simp [rdMs]
theorem rdMs_succ (bs : List UInt8) (n : Nat) : rdMs bs (n + 1) = rdMs bs n ++ [rdM bs n] := by simp [rdMs, List.range_succ]
open Classical in
noncomputable def parE (bs : List UInt8) : Int :=
  if hdrE bs ≠ 0 then hdrE bs
  else if 64 < cntN bs ∨ bs.length < 16 + 48 * cntN bs then 54
  else if ∃ k, k < cntN bs ∧ ¬ rdOk bs k then 54
  else if bldE (rdMs bs (cntN bs)) ≠ 0 ∨ imImg (rdMs bs (cntN bs)) ≠ bs then 54
  else 0
theorem hdr_ok {bs : List UInt8} (h : hdrE bs = 0) : 16 ≤ bs.length ∧ bs.length ≤ 16777216 ∧ bs.take 4 = [77, 75, 66, 73] ∧ leN (seg bs 4 2) = 1 ∧ leN (seg bs 8 4) = bs.length ∧ leN (seg bs 12 4) = crc (bs.drop 16) := by
  unfold hdrE at h
  split at h
  · omega
  · split at h
    · omega
    · next h2 =>
      split at h
      · omega
      · split at h
        · omega
        · split at h
          · omega
          · split at h
            · omega
            · split at h
              · omega
              · next h7 =>
                refine ⟨by omega, by omega, by simpa using h2, by omega, by omega, by simpa using h7⟩
def ParP (bs : List UInt8) (W : World) (en : Ending) (W' : World) : Prop :=
  (parE bs ≠ 0 ∧ en = .returned (.tuple #[.slice none 0 0, .int .i64 (parE bs)]) ∧ Below W.heap.size W W') ∨
  (parE bs = 0 ∧ ∃ A c qs, en = .returned (.tuple #[.slice A (cntN bs) c, .int .i64 0]) ∧ OwnMs W' W.heap.size A (cntN bs) c qs (rdMs bs (cntN bs)) ∧ Below W.heap.size W W')
theorem par_no {bs : List UInt8} {E : Int} (h : parE bs = E) (hE : E ≠ 0) {W W' : World} (hb : Below W.heap.size W W') : ParP bs W (.returned (.tuple #[.slice none 0 0, .int .i64 E])) W' := .inl ⟨by rw [h]; exact hE, by rw [h], hb⟩
end Go.Proofs.YtigbmlgllgcbhaaDoor
