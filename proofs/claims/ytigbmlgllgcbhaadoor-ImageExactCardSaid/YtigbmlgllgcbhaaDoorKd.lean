/- append(b, make([]byte, k)...): zeros put behind bytes. -/
import Derived.Test.YtigbmlgllgcbhaaDoorKb
import Derived.Lib.AppendZeros
import Derived.Lib.AppendZerosOnto
namespace Go.Proofs.YtigbmlgllgcbhaaDoor
open Go.RowKit
set_option linter.unusedVariables false
set_option linter.unusedSimpArgs false
theorem zeroCells_b (k : Nat) : Builtin.zeroCells (Value.int .u8 0).cells k = ((zer k).map bv).toArray := by
  apply Array.ext'
  have : (Value.int .u8 0).cells = #[.int .u8 0] := rfl
  rw [this]
  simp [Builtin.zeroCells, zer, bv, Nat.mod_one, List.map_const']
theorem run_append_z {P : Program} {w : World} {t tn ty e : TypeId} {base n c k : Nat} {A : Option Addr} {bs : List UInt8} (ht : P.underlying t = some (.slice e)) (htn : P.underlying tn = some (.int .i64)) (hinfo : (P.info? e).map (fun i => (i.zero, i.size, i.bytes)) = some (some (.int .u8 0), 1, 1)) (hown : OwnB w base e A n c bs) (hlen : n + k ≤ 140737488355328) (hbase : base ≤ w.heap.size) :
    ∃ A' c'' w', (Builtin.append_ #[t, tn] ty #[.slice A n c, .int .i64 (k : Int)]).run P w = .ok (.slice A' (n + k) c'') w' ∧ OwnB w' base e A' (n + k) c'' (bs ++ zer k) ∧ w.grownBy w' (Value.slice A n c).ownBlock := by
  obtain ⟨i, hi, hz⟩ := Option.map_eq_some_iff.1 hinfo
  simp only [Prod.mk.injEq] at hz
  obtain ⟨hz0, hz1, hz2⟩ := hz
  have hw : IntKind.i64.wrap (k : Int) = (k : Int) := by rw [IntKind.wrap_i64]; omega
  have hbl := hown.len
  have hll : ((bs ++ zer k).map bv).length = (n + k) * 1 := by simp [zer_len]; omega
  have grown : ∀ (old : Nat) (row : Option Nat), OwnB (w.drew.alloc (.cells ((bs.map bv).toArray ++ Builtin.zeroCells (Value.int .u8 0).cells k ++ Builtin.zeroCells (Value.int .u8 0).cells (grownCap w (n + k) old e - (n + k))) e)) base e (some ⟨w.heap.size, 0, none⟩) (n + k) (grownCap w (n + k) old e) (bs ++ zer k) ∧
      w.grownBy (w.drew.alloc (.cells ((bs.map bv).toArray ++ Builtin.zeroCells (Value.int .u8 0).cells k ++ Builtin.zeroCells (Value.int .u8 0).cells (grownCap w (n + k) old e - (n + k))) e)) row := by
    intro old row
    have hge := grownCap_ge w (n + k) old e
    have hcm : grownCap w (n + k) old e ≤ maxLen := grownCap_le_maxLen w (n + k) old e (by simp only [maxLen]; omega)
    refine ⟨⟨hll, .inr ⟨w.heap.size, _, _, rfl, hbase, heap_alloc_new w.drew _, hge, hcm, ?_, ?_⟩⟩, ⟨rfl, rfl, rfl, by simp, fun k hk _ => heap_alloc_old w.drew _ hk⟩⟩
    · rw [zeroCells_b, zeroCells_b]
      simp [zer_len]
      omega
    · rw [zeroCells_b, zeroCells_b]
      simp only [Array.toList_append]
      rw [List.map_append]
      apply List.take_left'
      simp [zer_len]
      omega
  rcases Nat.eq_zero_or_pos k with h0 | h0
  · subst h0
    have hw0 : IntKind.i64.wrap 0 = 0 := by decide
    refine ⟨A, c, w, ?_, by simpa [zer] using hown, World.grownBy.refl w _⟩
    rcases hown.2 with ⟨h', hn⟩ | ⟨g, cap, cur, h', _, _, hnc, _⟩
    · injection h' with h1 h2 h3
      subst h1; subst h2; subst h3
      simp [Builtin.append_, run_underlying ht, run_underlying htn, sizeOf, typeInfo, hi, asInt, asIntOf, hw0, hz1, Builtin.lenOf, Builtin.firstCells, loadCells, loadCellsFrom]
    · injection h' with h1 h2 h3
      subst h1; subst h3
      simp [Builtin.append_, run_underlying ht, run_underlying htn, sizeOf, typeInfo, hi, asInt, asIntOf, hw0, hz1, Builtin.lenOf, Builtin.firstCells, hnc, storeCells, loadCells, loadCellsFrom]
  · rcases hown.2 with ⟨h', hn⟩ | ⟨g, cap, cur, h', hbg, hg, hnc, hcm, hcs, htake⟩
    · injection h' with h1 h2 h3
      subst h1; subst h2; subst h3
      obtain rfl : bs = [] := List.eq_nil_of_length_eq_zero (by omega)
      have hr := Go.Lib.run_append_grow_zeros (P := P) w t tn ty e i _ .i64 .i64 ht htn hi hz0 none 0 0 [] (by simp [Builtin.firstCells, loadCells, loadCellsFrom]) k h0 (by omega) (by omega) (by omega) (by rw [hz2]; omega) (by rw [hz2, nextslicecap_zero (by omega)]; omega)
      have hgr := grown 0 (Value.ownBlock (.slice none 0 0))
      exact ⟨_, _, _, hr, hgr.1, hgr.2⟩
    · injection h' with h1 h2 h3
      subst h1; subst h3
      have ht' : cur.toList.take n = bs.map bv := by simpa using htake
      have hcs' : cur.size = c := by simpa using hcs
      by_cases hroom : n + k ≤ c
      · have hst := run_storeCells_at P g n e ((zer k).map bv) 0 cur w hg (by simp [zer_len]; omega) (bv_one _)
        simp only [Nat.add_zero, List.length_map, zer_len] at hst
        have hneg : ¬ ((k : Int) < 0) := by omega
        have h48 : ¬ (281474976710656 < (k : Int)) := by omega
        have hk0 : k ≠ 0 := by omega
        have hr : (Builtin.append_ #[t, tn] ty #[.slice (some ⟨g, 0, none⟩) n c, .int .i64 (k : Int)]).run P w = .ok (.slice (some ⟨g, 0, none⟩) (n + k) c) (w.setRow g (cur.toList.take n ++ (zer k).map bv ++ cur.toList.drop (n + k)).toArray) := by
          simp [Builtin.append_, run_underlying ht, run_underlying htn, sizeOf, typeInfo, zeroValue, hi, hz0, hz1, hz2, asInt, asIntOf, hw, hneg, h48, hk0, hroom, Addr.add_lit, zeroCells_b, hst]
        refine ⟨_, _, _, hr, ⟨hll, .inr ⟨g, c, _, rfl, hbg, setRow_heap w g cur _ e _ hg, hroom, hcm, ?_, ?_⟩⟩, ⟨rfl, rfl, rfl, by simp, fun k _ hk => setRow_other w g k _ (fun e => hk (by simp [Value.ownBlock, e]))⟩⟩
        · simp only [List.size_toArray, List.length_append, List.length_take, List.length_drop, Array.length_toList, List.length_map, zer_len]
          omega
        · rw [ht', ← List.map_append]
          apply List.take_left'
          rw [hll]
      · have holds : ∀ j u, (bs.map bv)[j]? = some u → w.drew.cell? ((⟨g, 0, none⟩ : Addr).add j) = some u := by
          have := World.ownsRow.cells (g := g) hown rfl
          simpa using this
        have hf := run_firstCells_some (P := P) w.drew i.size n ⟨g, 0, none⟩ n c (bs.map bv) (by rw [hz1]; simp; omega) holds
        have hnc2 : Builtin.nextslicecap (n + k) c * i.bytes ≤ 281474976710656 := growslice_fits (by omega) (by rw [hz2]; omega)
        have hr := Go.Lib.run_append_grow_zeros (P := P) w t tn ty e i _ .i64 .i64 ht htn hi hz0 (some ⟨g, 0, none⟩) n c (bs.map bv) hf k h0 (by omega) (by omega) (by omega) (by rw [hz2]; omega) hnc2
        have hgr := grown c (Value.ownBlock (.slice (some ⟨g, 0, none⟩) n c))
        exact ⟨_, _, _, hr, hgr.1, hgr.2⟩
theorem wp_append_z {P : Program} {ops : Array Oper} {rest : List Oper} {Q : Exit → Act → World → Prop} {a : Act} {w : World} {o : Oper} (hgd : o.guard = none) (s x : Operand) (t tn : TypeId) (ho : o.op = .call { callee := .builtin .append, args := #[s, x], argTypes := #[t, tn] }) {e : TypeId} {base n c k : Nat} {A : Option Addr} {bs : List UInt8} {X : Int} (ht : P.underlying t = some (.slice e)) (htn : P.underlying tn = some (.int .i64)) (hinfo : (P.info? e).map (fun i => (i.zero, i.size, i.bytes)) = some (some (.int .u8 0), 1, 1)) (hown : OwnB w base e A n c bs) (hlen : n + k ≤ 140737488355328) (hbase : base ≤ w.heap.size)
    (hs : a.eval s = .slice A n c) (hx : a.eval x = .int .i64 X) (hX : X = (k : Int))
    (h : ∀ A' c'' w', OwnB w' base e A' (n + k) c'' (bs ++ zer k) → Below base w w' → w.grownBy w' (Value.slice A n c).ownBlock → wpList P ops Q rest (a.put o.dst (.slice A' (n + k) c'')) w') : wpList P ops Q (o :: rest) a w := by
  subst hX
  obtain ⟨A', c'', w', hr, h2, h3⟩ := run_append_z (P := P) (ty := o.type) ht htn hinfo hown hlen hbase
  exact Go.Lib.wpList_append_run w hgd s x t tn ho _ _ hs hx _ _ hr (h _ _ _ h2 ((Below.refl _ _).grown h3 hbase hown.ge) h3)
end Go.Proofs.YtigbmlgllgcbhaaDoor
