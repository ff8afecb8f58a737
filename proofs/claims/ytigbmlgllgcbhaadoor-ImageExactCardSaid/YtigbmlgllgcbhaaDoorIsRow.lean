/- A slice of bytes that came in, read as a list. -/
import Derived.Test.YtigbmlgllgcbhaaDoorRow
import Derived.DataReads
namespace Go.Proofs.YtigbmlgllgcbhaaDoor
set_option linter.unusedVariables false
/-- What is known of a slice of integers that came in. -/
def IsRow (k : IntKind) (w : World) (a : Option Addr) (len cap : Nat) (zs : List Int) : Prop :=
  (a = none ∧ len = 0 ∧ cap = 0 ∧ zs = []) ∨
  ∃ x, a = some x ∧ len ≤ cap ∧ cap ≤ maxLen ∧ zs.length = cap ∧ (∀ i, i < zs.length → w.cell? (x.add i) = some (.int k (zs.getD i 0))) ∧ ∀ n ∈ zs, (Lit.int k n).wf = true
theorem wf_u8 {n : Int} (h : (Lit.int .u8 n).wf = true) : 0 ≤ n ∧ n < 256 := by
  simp [Lit.wf, IntKind.min, IntKind.max, IntKind.bits, IntKind.signed] at h
  omega
theorem IsRow.isB {w : World} {a : Option Addr} {len cap : Nat} {zs : List Int} (h : IsRow .u8 w a len cap zs) : ∃ bs, IsB w a len bs ∧ len ≤ 9223372036854775807 := by
  rcases h with ⟨rfl, rfl, rfl, rfl⟩ | ⟨x, rfl, hl, hm, hz, hc, hw⟩
  · exact ⟨[], IsB.nil _ _, by omega⟩
  · refine ⟨(zs.take len).map (fun z => UInt8.ofNat z.toNat), ⟨by simp; omega, fun hn => ?_⟩, by simp only [maxLen] at hm; omega⟩
    have h0 := hc 0 (by omega)
    obtain ⟨b, o, sp⟩ := x
    have hsp : sp = none := by simpa [Addr.add] using World.cell?_spot h0
    subst hsp
    refine ⟨b, o, rfl, fun i hi => ?_⟩
    have hi' : i < zs.length := by simp at hi; omega
    have := hc i hi'
    rw [Addr.add_mid] at this
    rw [this]
    have hg : zs.getD i 0 = zs[i] := by simp [hi']
    have hwi := wf_u8 (hw zs[i] (List.getElem_mem hi'))
    rw [hg]
    congr 2
    simp only [List.getElem_map, List.getElem_take, UInt8.toNat_ofNat']
    omega
theorem IsRow.cap {k : IntKind} {w : World} {a : Option Addr} {len cap : Nat} {zs : List Int} (h : IsRow k w a len cap zs) : len ≤ cap := by
  rcases h with ⟨rfl, rfl, rfl, rfl⟩ | ⟨x, rfl, hl, _⟩
  · exact Nat.le_refl _
  · exact hl
end Go.Proofs.YtigbmlgllgcbhaaDoor
