/- []byte(string) with zeros put behind it. -/
import Derived.Test.YtigbmlgllgcbhaaDoorKd
import Derived.Lib.FrozenHead
namespace Go.Proofs.YtigbmlgllgcbhaaDoor
open Go.RowKit
set_option linter.unusedVariables false
set_option linter.unusedSimpArgs false
/-- Stores into a row whose frozen cells begin behind them. -/
theorem run_storeCells_atE (P : Program) (g o : Nat) (t : TypeId) (fz : Nat × Nat) : ∀ (vs : List Value) (i : Nat) (cur : Array Value) (w : World), w.heap[g]? = some (.cells cur t fz) → o + i + vs.length ≤ fz.1 → o + i + vs.length ≤ cur.size → (∀ v ∈ vs, v.oneCell' = true) →
    (storeCells ⟨g, o, none⟩ vs i).run P w = .ok () (w.setRow g (cur.toList.take (o + i) ++ vs ++ cur.toList.drop (o + i + vs.length)).toArray)
  | [], i, cur, w, hg, _, _, _ => by
    simp only [storeCells, List.append_nil, List.length_nil, Nat.add_zero, List.take_append_drop, Array.toArray_toList]
    rw [setRow_self w g cur t fz hg]
    rfl
  | v :: rest, i, cur, w, hg, hfz, hl, h1 => by
    have hi : o + i < cur.size := by simp at hl; omega
    have hadd : (⟨g, o, none⟩ : Addr).add i = ⟨g, o + i, none⟩ := by unfold Addr.add; split <;> simp_all
    have hcell : w.cell? ⟨g, o + i, none⟩ = some cur[o + i] := by simp [World.cell?, hg, hi]
    have hfro : w.frozen? ⟨g, o + i, none⟩ = false := by
      obtain ⟨lo, hi'⟩ := fz
      simp only [World.frozen?, hg, Bool.and_eq_false_iff, decide_eq_false_iff_not]
      left
      simp only [List.length_cons] at hfz
      omega
    have hst : (store ((⟨g, o, none⟩ : Addr).add i) v).run P w = .ok () (w.setRow g (cur.setIfInBounds (o + i) v)) := by
      rw [hadd, run_store P w _ v _ (h1 v (by simp)), hcell]
      simp [hfro, setCell_eq_setRow w g (o + i) cur t fz v hg]
    have ih := run_storeCells_atE P g o t fz rest (i + 1) (cur.setIfInBounds (o + i) v) (w.setRow g (cur.setIfInBounds (o + i) v)) (setRow_heap w g cur _ t _ hg) (by simp only [List.length_cons] at hfz; omega) (by simp at hl ⊢; omega) (fun x hx => h1 x (by simp [hx]))
    simp only [storeCells, Sem.run_bind, hst, Result.andThen_ok, ih, setRow_setRow]
    congr 3
    have e := list_seg_step cur.toList (o + i) v rest (by simp at hl ⊢; omega)
    simpa [Array.toList_setIfInBounds, Nat.add_assoc] using e
theorem isB_row {w : World} {g n : Nat} {cur : Array Value} {t : TypeId} {fz : Nat × Nat} {bs : List UInt8} (hg : w.heap[g]? = some (.cells cur t fz)) (ht : cur.toList.take n = bs.map bv) (hn : n = bs.length) : IsB w (some ⟨g, 0, none⟩) n bs := by
  refine ⟨hn, fun _ => ⟨g, 0, rfl, fun i hi => ?_⟩⟩
  have h1 : (cur.toList.take n)[i]? = some (bv bs[i]) := by rw [ht]; simp [hi]
  rw [List.getElem?_take, if_pos (by omega)] at h1
  simp only [World.cell?, Nat.zero_add, hg]
  rw [← Array.getElem?_toList, h1]
  rfl
theorem conv_z {w : World} {g n k cp : Nat} {cur : Array Value} {bs : List UInt8} {ty : TypeId} (hg : w.heap[g]? = some (.cells cur 5 (cur.size, cur.size + 1))) (ht : cur.toList.take n = bs.map bv) (hn : n = bs.length) (hc : cp = cur.size) (hnc : n ≤ cp) (hlen : n + k ≤ 1000000000) (hgw : g < w.heap.size) :
    ∃ A' c'' w', (Builtin.append_ #[23, 3] ty #[.slice (some ⟨g, 0, none⟩) n cp, .int .i64 (k : Int)]).run Tryd.prog w = .ok (.slice A' (n + k) c'') w' ∧ IsB w' A' (n + k) (bs ++ zer k) ∧ Below g w w' ∧ n + k ≤ c'' := by
  obtain ⟨i, hi, hz⟩ := Option.map_eq_some_iff.1 info_u8
  simp only [Prod.mk.injEq] at hz
  obtain ⟨hz0, hz1, hz2⟩ := hz
  have hw : IntKind.i64.wrap (k : Int) = (k : Int) := by rw [IntKind.wrap_i64]; omega
  have hI := isB_row hg ht hn
  subst hc
  rcases Nat.eq_zero_or_pos k with h0 | h0
  · subst h0
    have hw0 : IntKind.i64.wrap 0 = 0 := by decide
    refine ⟨some ⟨g, 0, none⟩, cur.size, w, ?_, by simpa [zer] using hI, Below.refl _ _, by omega⟩
    simp [Builtin.append_, run_underlying Tryd.underlying23, run_underlying Tryd.underlying3, sizeOf, typeInfo, hi, asInt, asIntOf, hw0, hz1, Builtin.lenOf, Builtin.firstCells, hnc, storeCells, loadCells, loadCellsFrom]
  · by_cases hroom : n + k ≤ cur.size
    · have hst := run_storeCells_atE Tryd.prog g n 5 (cur.size, cur.size + 1) ((zer k).map bv) 0 cur w hg (by simp [zer_len]; omega) (by simp [zer_len]; omega) (bv_one _)
      simp only [Nat.add_zero, List.length_map, zer_len] at hst
      have hneg : ¬ ((k : Int) < 0) := by omega
      have h48 : ¬ (281474976710656 < (k : Int)) := by omega
      have hk0 : k ≠ 0 := by omega
      have hr : (Builtin.append_ #[23, 3] ty #[.slice (some ⟨g, 0, none⟩) n cur.size, .int .i64 (k : Int)]).run Tryd.prog w = .ok (.slice (some ⟨g, 0, none⟩) (n + k) cur.size) (w.setRow g (cur.toList.take n ++ (zer k).map bv ++ cur.toList.drop (n + k)).toArray) := by
        simp [Builtin.append_, run_underlying Tryd.underlying23, run_underlying Tryd.underlying3, sizeOf, typeInfo, zeroValue, hi, hz0, hz1, hz2, asInt, asIntOf, hw, hneg, h48, hk0, hroom, Addr.add_lit, zeroCells_b, hst]
      refine ⟨_, _, _, hr, isB_row (setRow_heap w g cur _ 5 _ hg) ?_ (by simp [zer_len]; omega), ⟨rfl, rfl, rfl, by simp, fun j hj => setRow_other w g j _ (by omega)⟩, hroom⟩
      rw [ht, ← List.map_append]
      apply List.take_left'
      simp [zer_len]
      omega
    · have holds : ∀ j u, (bs.map bv)[j]? = some u → w.drew.cell? ((⟨g, 0, none⟩ : Addr).add j) = some u := by
        intro j u hu
        rw [← ht, List.getElem?_take] at hu
        split at hu
        · rw [Addr.add_lit]
          show w.cell? _ = _
          simp only [World.cell?, Nat.zero_add, hg]
          rw [← Array.getElem?_toList]
          exact hu
        · cases hu
      have hf := run_firstCells_some (P := Tryd.prog) w.drew i.size n ⟨g, 0, none⟩ n cur.size (bs.map bv) (by rw [hz1]; simp; omega) holds
      have hnc2 : Builtin.nextslicecap (n + k) cur.size * i.bytes ≤ 281474976710656 := growslice_fits (by omega) (by rw [hz2]; omega)
      have hr := Go.Lib.run_append_grow_zeros (P := Tryd.prog) w 23 3 ty 5 i _ .i64 .i64 Tryd.underlying23 Tryd.underlying3 hi hz0 (some ⟨g, 0, none⟩) n cur.size (bs.map bv) hf k h0 (by omega) (by omega) (by omega) (by rw [hz2]; omega) hnc2
      refine ⟨_, _, _, hr, isB_row (heap_alloc_new w.drew _) ?_ (by simp [zer_len]; omega), (Below.refl _ _).drew.alloc (Nat.le_of_lt hgw) _, grownCap_ge _ _ _ _⟩
      rw [zeroCells_b, zeroCells_b]
      simp only [Array.toList_append]
      rw [List.map_append]
      apply List.take_left'
      simp [zer_len]
      omega
end Go.Proofs.YtigbmlgllgcbhaaDoor
