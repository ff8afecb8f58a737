/- A slice of slices of bytes that came in, read as a list of lists. -/
import Derived.Test.YthjkhambmgepdaaIsRow
namespace Go.Proofs.Ythjkhambmgepdaa
open Go.RowKit
set_option linter.unusedVariables false
/-- What is known of a slice of slices of integers that came in. -/
def IsRows (k : IntKind) (w : World) (a : Option Addr) (len cap : Nat) (A : Nat → Option Addr) (L C : Nat → Nat) (Z : Nat → List Int) : Prop :=
  (a = none ∧ len = 0 ∧ cap = 0) ∨
  ∃ x, a = some x ∧ len ≤ cap ∧ cap ≤ maxLen ∧ ∀ r, r < cap → w.cell? (x.add r) = some (.slice (A r) (L r) (C r)) ∧ IsRow k w (A r) (L r) (C r) (Z r)
/-- A slice of slices of bytes reads as a list of lists. -/
def IsM (w : World) (a : Option Addr) (len : Nat) (ls : List (List UInt8)) : Prop :=
  len = ls.length ∧ (0 < len → ∃ b o, a = some ⟨b, o, none⟩ ∧ ∀ r (h : r < ls.length), ∃ A C, w.cell? ⟨b, o + r, none⟩ = some (.slice A (ls[r]).length C) ∧ (ls[r]).length ≤ C ∧ (ls[r]).length ≤ 9223372036854775807 ∧ IsB w A (ls[r]).length ls[r])
theorem IsRows.isM {w : World} {a : Option Addr} {len cap : Nat} {A : Nat → Option Addr} {L C : Nat → Nat} {Z : Nat → List Int} (h : IsRows .u8 w a len cap A L C Z) : ∃ ls, IsM w a len ls ∧ len ≤ 9223372036854775807 := by
  rcases h with ⟨rfl, rfl, rfl⟩ | ⟨x, rfl, hl, hm, hr⟩
  · exact ⟨[], ⟨rfl, fun h => absurd h (by omega)⟩, by omega⟩
  · have each : ∀ r, ∃ bs, r < cap → IsB w (A r) (L r) bs ∧ L r ≤ 9223372036854775807 := fun r => by
      by_cases h : r < cap
      · obtain ⟨bs, h1, h2⟩ := (hr r h).2.isB
        exact ⟨bs, fun _ => ⟨h1, h2⟩⟩
      · exact ⟨[], fun h' => absurd h' h⟩
    refine ⟨(List.range len).map fun r => Classical.choose (each r), ⟨by simp, fun h0 => ?_⟩, by simp only [maxLen] at hm; omega⟩
    obtain ⟨b, o, sp⟩ := x
    have h1 := (hr 0 (by omega)).1
    have hsp : sp = none := by simpa [Addr.add] using World.cell?_spot h1
    subst hsp
    refine ⟨b, o, rfl, fun r h => ?_⟩
    have hr' : r < len := by simpa using h
    have hc := hr r (by omega)
    obtain ⟨h3, h4⟩ := Classical.choose_spec (each r) (by omega)
    simp only [List.getElem_map, List.getElem_range]
    have h5 := hc.1
    rw [Addr.add_mid] at h5
    rw [← h3.1]
    exact ⟨A r, C r, h5, hc.2.cap, h4, h3⟩
theorem IsM.at_ {w w' : World} {a : Option Addr} {len : Nat} {ls : List (List UInt8)} (h : IsM w a len ls) (hb : Below w.heap.size w w') (h0 : 0 < len) : ∃ b o, a = some ⟨b, o, none⟩ ∧
    ∀ r (h : r < ls.length), ∃ A C, w'.cell? ⟨b, o + r, none⟩ = some (.slice A (ls[r]).length C) ∧ (ls[r]).length ≤ C ∧ (ls[r]).length ≤ 9223372036854775807 ∧ IsB w' A (ls[r]).length ls[r] := by
  obtain ⟨b, o, e, hc⟩ := h.2 h0
  refine ⟨b, o, e, fun r hr => ?_⟩
  obtain ⟨A, C, h1, h2, h3, h4⟩ := hc r hr
  exact ⟨A, C, (hb.cell (p := ⟨b, o + r, none⟩) (block_lt_of_cell h1)).trans h1, h2, h3, h4.below hb⟩
end Go.Proofs.Ythjkhambmgepdaa
