/- A block whose first cells are the bytes cs, more cells behind them. -/
import Derived.Test.YtigbmlgllgcbhaaDoorApp
namespace Go.Proofs.YtigbmlgllgcbhaaDoor
open Go.RowKit
set_option linter.unusedVariables false
def RB (w : World) (g : Nat) (t : TypeId) (n : Nat) (cs : List UInt8) : Prop := ∃ cur : Array Value, Row w g t cur ∧ cs.length = n ∧ cur.toList.take n = cs.map bv
theorem RB.cell {w : World} {g n : Nat} {t : TypeId} {cs : List UInt8} (h : RB w g t n cs) (i : Nat) (hi : i < cs.length) : w.cell? ⟨g, i, none⟩ = some (.int .u8 (cs[i].toNat : Int)) := by
  obtain ⟨cur, hr, hl, ht⟩ := h
  rw [hr.cell i]
  have : (cur.toList.take n)[i]? = some (bv cs[i]) := by rw [ht]; simp [hi]
  rw [List.getElem?_take, if_pos (by omega)] at this
  simpa [bv] using this
theorem RB.frozen {w : World} {g n : Nat} {t : TypeId} {cs : List UInt8} (h : RB w g t n cs) (i : Nat) : w.frozen? ⟨g, i, none⟩ = false := by
  obtain ⟨cur, hr, hl, ht⟩ := h
  exact hr.frozen i
theorem RB.set {w : World} {g n : Nat} {t : TypeId} {cs : List UInt8} (h : RB w g t n cs) (i : Nat) (x : UInt8) : RB (w.setCell ⟨g, i, none⟩ (bv x)) g t n (cs.set i x) := by
  obtain ⟨cur, hr, hl, ht⟩ := h
  refine ⟨_, hr.set i (bv x), by simpa using hl, ?_⟩
  rw [Array.toList_setIfInBounds, List.take_set, ht, List.map_set]
theorem RB.isB {w : World} {g n : Nat} {t : TypeId} {cs : List UInt8} (h : RB w g t n cs) : IsB w (some ⟨g, 0, none⟩) n cs :=
  ⟨h.choose_spec.2.1.symm, fun _ => ⟨g, 0, rfl, fun i hi => by rw [Nat.zero_add]; exact h.cell i hi⟩⟩
theorem OwnB.rb {w : World} {base : Nat} {e : TypeId} {g n c : Nat} {bs : List UInt8} (h : OwnB w base e (some ⟨g, 0, none⟩) n c bs) : RB w g e n bs := by
  rcases h.2 with ⟨h', h0⟩ | ⟨g', cap, cur, h', hb, hg, hnc, hcm, hcs, htake⟩
  · cases h'
  · injection h' with h1 h2 h3
    injection h1 with h1
    injection h1 with h1
    subst h1
    exact ⟨cur, hg, h.len.symm, by simpa using htake⟩
end Go.Proofs.YtigbmlgllgcbhaaDoor
