/- An append of bytes as one step, for regions that draw their order. -/
import Derived.Test.YtigbmlgllgcbhaaDoorApp
namespace Go.Proofs.YtigbmlgllgcbhaaDoor
open Go.RowKit
set_option linter.unusedVariables false
section
variable {P : Program} {K : Act → World → Prop} {Q : Exit → Act → World → Prop} {a : Act} {w : World} {dst : Option Tmp} {typ : TypeId} {pos : String} {after : Array Edge} {gd : Option (Nat × Bool)}
theorem run_append_b {t e : TypeId} {base n c m c' : Nat} {A B : Option Addr} {bs cs : List UInt8} (ht : P.underlying t = some (.slice e))
    (hinfo : (P.info? e).map (fun i => (i.zero, i.size, i.bytes)) = some (some (.int .u8 0), 1, 1)) (hown : OwnB w base e A n c bs) (hB : IsB w B m cs) (hlen : n + m ≤ 140737488355328) (hbase : base ≤ w.heap.size) :
    ∃ A' c'' w', (Builtin.append_ #[t, t] typ #[.slice A n c, .slice B m c']).run P w = .ok (.slice A' (n + m) c'') w' ∧ OwnB w' base e A' (n + m) c'' (bs ++ cs) ∧ w.grownBy w' (Value.slice A n c).ownBlock ∧ ((Value.slice A' (n + m) c'').ownBlock = (Value.slice A n c).ownBlock ∨ (Value.slice A' (n + m) c'').ownBlock = some w.heap.size) := by
  obtain ⟨i, hi, hz⟩ := Option.map_eq_some_iff.1 hinfo
  simp only [Prod.mk.injEq] at hz
  obtain ⟨hz0, hz1, hz2⟩ := hz
  rcases Nat.eq_zero_or_pos m with h0 | h0
  · subst h0
    obtain rfl : cs = [] := List.eq_nil_of_length_eq_zero hB.1.symm
    refine ⟨A, c, w, ?_, by simpa using hown, World.grownBy.refl w _, .inl rfl⟩
    rcases hown.2 with ⟨h', hn⟩ | ⟨g, cap, cur, h', _, _, hnc, _⟩
    · injection h' with h1 h2 h3
      subst h1; subst h2; subst h3
      cases B <;> simp [Builtin.append_, run_underlying ht, sizeOf, typeInfo, hi, Builtin.lenOf, Builtin.firstCells, loadCells, loadCellsFrom]
    · injection h' with h1 h2 h3
      subst h1; subst h3
      cases B <;> simp [Builtin.append_, run_underlying ht, sizeOf, typeInfo, hi, Builtin.lenOf, Builtin.firstCells, hnc, storeCells, loadCells, loadCellsFrom]
  · obtain ⟨ad, rfl, hsrc⟩ := hB.src h0
    obtain ⟨v', w', hr, h2, h3, h4, h5⟩ := run_append_own_at (P := P) w base t typ e i _ 1 1 ht hi hz0 hz1 hz2 rfl (by omega) (.slice A n c) n (bs.map bv) hown ad m c' (cs.map bv)
      (by simp [← hB.1]) hsrc (bv_one cs) (by simp only [maxLen]; omega) (by omega) hbase
    rcases h2.2 with ⟨rfl, hn0⟩ | ⟨g, cap, cur, rfl, rest'⟩
    · omega
    · exact ⟨_, _, _, hr, by unfold OwnB; rw [List.map_append]; exact h2, h3, h5⟩
/-- An append of bytes. -/
theorem step_append_b {s x : Operand} {t e : TypeId} {base n c m c' : Nat} {A B : Option Addr} {bs cs : List UInt8} (ht : P.underlying t = some (.slice e))
    (hinfo : (P.info? e).map (fun i => (i.zero, i.size, i.bytes)) = some (some (.int .u8 0), 1, 1)) (hown : OwnB w base e A n c bs) (hB : IsB w B m cs) (hlen : n + m ≤ 140737488355328) (hbase : base ≤ w.heap.size)
    (hs : a.eval s = .slice A n c) (hx : a.eval x = .slice B m c')
    (h : ∀ A' c'' w', OwnB w' base e A' (n + m) c'' (bs ++ cs) → Below base w w' → w.grownBy w' (Value.slice A n c).ownBlock → ((Value.slice A' (n + m) c'').ownBlock = (Value.slice A n c).ownBlock ∨ (Value.slice A' (n + m) c'').ownBlock = some w.heap.size) → K (a.put dst (.slice A' (n + m) c'')) w') :
    Oper.wp P { dst := dst, op := .call { callee := .builtin .append, args := #[s, x], argTypes := #[t, t] }, type := typ, pos := pos, after := after, guard := gd } a w K Q := by
  obtain ⟨A', c'', w', hr, h2, h3, h5⟩ := run_append_b (P := P) (typ := typ) (c' := c') ht hinfo hown hB hlen hbase
  unfold Oper.wp execOp
  simp only [resolve, invoke, builtin, Sem.run_bind, Sem.run_pure, Result.andThen_ok, List.map_toArray, List.map_cons, List.map_nil, hs, hx, hr]
  exact h _ _ _ h2 ((Below.refl _ _).grown h3 hbase hown.ge) h3 h5
/-- A copy of bytes: appended to nil. -/
theorem step_copy_b {s x : Operand} {t e : TypeId} {m c' : Nat} {B : Option Addr} {cs : List UInt8} (ht : P.underlying t = some (.slice e))
    (hinfo : (P.info? e).map (fun i => (i.zero, i.size, i.bytes)) = some (some (.int .u8 0), 1, 1)) (hB : IsB w B m cs) (hlen : m ≤ 140737488355328)
    (hs : a.eval s = .slice none 0 0) (hx : a.eval x = .slice B m c')
    (h : ∀ A' c'' w', OwnB w' w.heap.size e A' m c'' cs → Below w.heap.size w w' → K (a.put dst (.slice A' m c'')) w') :
    Oper.wp P { dst := dst, op := .call { callee := .builtin .append, args := #[s, x], argTypes := #[t, t] }, type := typ, pos := pos, after := after, guard := gd } a w K Q := by
  refine step_append_b (c' := c') ht hinfo (OwnB.nil w w.heap.size e) hB (by omega) (Nat.le_refl _) hs hx fun A' c'' w' h1 h2 h3 h4 => ?_
  simp only [Nat.zero_add] at h1 ⊢
  exact h A' c'' w' h1 h2
end
end Go.Proofs.YtigbmlgllgcbhaaDoor
