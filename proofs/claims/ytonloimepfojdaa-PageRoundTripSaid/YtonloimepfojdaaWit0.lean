/- Page tables: a slice of mappings appended to a growing one. -/
import Derived.Test.YtonloimepfojdaaUnp3
import Derived.Test.YtonloimepfojdaaLate
namespace Go.Proofs.Ytonloimepfojdaa
open Go.RowKit
set_option linter.unusedVariables false
theorem IsMs.pre {w : World} {A : Option Addr} {n : Nat} {ms : List Mp} (h : IsMs w A n ms) (k : Nat) (hk : k ≤ n) : IsMs w A k (ms.take k) := by
  refine ⟨by have := h.1; rw [List.length_take]; omega, fun h0 => ?_⟩
  obtain ⟨b, o, e, hc⟩ := h.2 (by omega)
  exact ⟨b, o, e, fun i hi j v hv => by
    have hi' : i < ms.length := by simp at hi; omega
    exact hc i hi' j v (by simpa using hv)⟩
theorem IsMs.suf {w : World} {b o n : Nat} {ms : List Mp} (h : IsMs w (some ⟨b, o, none⟩) n ms) (k : Nat) (hk : k ≤ n) : IsMs w (some ⟨b, o + k * 6, none⟩) (n - k) (ms.drop k) := by
  refine ⟨by have := h.1; rw [List.length_drop]; omega, fun h0 => ?_⟩
  obtain ⟨b', o', e, hc⟩ := h.2 (by omega)
  injection e with e
  injection e with e1 e2 e3
  subst e1 e2
  refine ⟨b, o + k * 6, rfl, fun i hi j v hv => ?_⟩
  have hi' : k + i < ms.length := by simp at hi; omega
  have := hc (k + i) hi' j v (by simpa using hv)
  rwa [show o + k * 6 + i * 6 + j = o + (k + i) * 6 + j by omega]
theorem IsMs.empty {w : World} (A : Option Addr) : IsMs w A 0 [] := ⟨rfl, fun h => absurd h (by omega)⟩
section
variable {P : Program} {ops : Array Oper} {rest : List Oper} {Q : Exit → Act → World → Prop} {K : Act → World → Prop} {Q' : Exit → Act → World → Prop} {a : Act} {w : World} {dst : Option Tmp} {typ : TypeId} {pos : String} {after : Array Edge}
theorem run_append_ms {t e : TypeId} {zv : Value} {bytes n c m c2 base : Nat} {A B : Option Addr} {xs : List Value} {ms : List Mp} (ht : P.underlying t = some (.slice e)) (hinfo : (P.info? e).map (fun i => (i.zero, i.size, i.bytes)) = some (some zv, 6, bytes)) (hzs : zv.cells.size = 6) (hby : bytes ≤ 1000)
    (hown : OwnR w base e 6 A n c xs) (hB : IsMs w B m ms) (hn : n + m ≤ 1000) (hbase : base ≤ w.heap.size) :
    ∃ A' c'' w', (Builtin.append_ #[t, t] typ #[.slice A n c, .slice B m c2]).run P w = .ok (.slice A' (n + m) c'') w' ∧ OwnR w' base e 6 A' (n + m) c'' (xs ++ msC ms) ∧ w.grownBy w' (Value.slice A n c).ownBlock := by
  obtain ⟨i, hi, hz⟩ := Option.map_eq_some_iff.1 hinfo
  simp only [Prod.mk.injEq] at hz
  obtain ⟨hz0, hz1, hz2⟩ := hz
  rcases Nat.eq_zero_or_pos m with h0 | h0
  · subst h0
    obtain rfl : ms = [] := List.eq_nil_of_length_eq_zero hB.1.symm
    refine ⟨A, c, w, ?_, by simpa [msC] using hown, World.grownBy.refl w _⟩
    rcases hown.2 with ⟨h', hn⟩ | ⟨g, cap, cur, h', _, _, hnc, _⟩
    · injection h' with h1 h2 h3
      subst h1; subst h2; subst h3
      cases B <;> simp [Builtin.append_, run_underlying ht, sizeOf, typeInfo, hi, Builtin.lenOf, Builtin.firstCells, loadCells, loadCellsFrom]
    · injection h' with h1 h2 h3
      subst h1; subst h3
      cases B <;> simp [Builtin.append_, run_underlying ht, sizeOf, typeInfo, hi, Builtin.lenOf, Builtin.firstCells, hnc, storeCells, loadCells, loadCellsFrom]
  · obtain ⟨ad, rfl, hsrc⟩ := hB.src h0
    obtain ⟨v', w', hr, h2, h3, h4, h5⟩ := run_append_own_at (P := P) w base t typ e i zv 6 bytes ht hi hz0 hz1 hz2 hzs (by omega) (.slice A n c) n xs hown ad m c2 (msC ms)
      (by rw [msC_len, ← hB.1]) hsrc (msC_one ms) (by simp only [maxLen]; omega) (Nat.le_trans (Nat.mul_le_mul hn hby) (by omega)) hbase
    rcases h2.2 with ⟨rfl, hn0⟩ | ⟨g, cap, cur, rfl, rest'⟩
    · omega
    · exact ⟨_, _, _, hr, h2, h3⟩
theorem step_append_ms {s x : Operand} {t e : TypeId} {zv : Value} {bytes n c m c2 base : Nat} {A B : Option Addr} {xs : List Value} {ms : List Mp} (ht : P.underlying t = some (.slice e)) (hinfo : (P.info? e).map (fun i => (i.zero, i.size, i.bytes)) = some (some zv, 6, bytes)) (hzs : zv.cells.size = 6) (hby : bytes ≤ 1000)
    (hown : OwnR w base e 6 A n c xs) (hB : IsMs w B m ms) (hn : n + m ≤ 1000) (hbase : base ≤ w.heap.size) (hs : a.eval s = .slice A n c) (hx : a.eval x = .slice B m c2)
    (h : ∀ A' c'' w', OwnR w' base e 6 A' (n + m) c'' (xs ++ msC ms) → w.grownBy w' (Value.slice A n c).ownBlock → K (a.put dst (.slice A' (n + m) c'')) w') :
    Oper.wp P { dst := dst, op := .call { callee := .builtin .append, args := #[s, x], argTypes := #[t, t] }, type := typ, pos := pos, after := after, guard := none } a w K Q' := by
  obtain ⟨A', c'', w', hr, h2, h3⟩ := run_append_ms (P := P) (typ := typ) (c2 := c2) ht hinfo hzs hby hown hB hn hbase
  unfold Oper.wp execOp
  simp only [resolve, invoke, builtin, Sem.run_bind, Sem.run_pure, Result.andThen_ok, List.map_toArray, List.map_cons, List.map_nil, hs, hx, hr]
  exact h _ _ _ h2 h3
theorem wp_append_ms {s x : Operand} {t e : TypeId} {zv : Value} {bytes n c m c2 base : Nat} {A B : Option Addr} {xs : List Value} {ms : List Mp} (ht : P.underlying t = some (.slice e)) (hinfo : (P.info? e).map (fun i => (i.zero, i.size, i.bytes)) = some (some zv, 6, bytes)) (hzs : zv.cells.size = 6) (hby : bytes ≤ 1000)
    (hown : OwnR w base e 6 A n c xs) (hB : IsMs w B m ms) (hn : n + m ≤ 1000) (hbase : base ≤ w.heap.size) (hs : a.eval s = .slice A n c) (hx : a.eval x = .slice B m c2)
    (h : ∀ A' c'' w', OwnR w' base e 6 A' (n + m) c'' (xs ++ msC ms) → w.grownBy w' (Value.slice A n c).ownBlock → wpList P ops Q rest (a.put dst (.slice A' (n + m) c'')) w') :
    wpList P ops Q ({ dst := dst, op := .call { callee := .builtin .append, args := #[s, x], argTypes := #[t, t] }, type := typ, pos := pos, after := after, guard := none } :: rest) a w :=
  wpList_plain rfl fun K hK => step_append_ms (c2 := c2) ht hinfo hzs hby hown hB hn hbase hs hx fun A' c'' w' h1 h2 => hK _ _ (h A' c'' w' h1 h2)
end
theorem OwnR.isMs {w : World} {base : Nat} {e : TypeId} {A : Option Addr} {n c : Nat} {ms : List Mp} (h : OwnR w base e 6 A n c (msC ms)) : IsMs w A n ms := by
  rcases h.2 with ⟨h1, h2⟩ | ⟨g, cap, cur, h1, _⟩
  · subst h2
    have hl : ms.length = 0 := by have := h.len; rw [msC_len] at this; omega
    obtain rfl : ms = [] := List.eq_nil_of_length_eq_zero hl
    exact IsMs.empty A
  · injection h1 with h1 _ _
    subst h1
    exact isMs_own h
theorem OwnR.cap {w : World} {base : Nat} {e : TypeId} {size : Nat} {A : Option Addr} {n c : Nat} {xs : List Value} (h : OwnR w base e size A n c xs) : n ≤ c := by
  rcases h.2 with ⟨h1, h2⟩ | ⟨g, cap, cur, h1, _, _, h2, _⟩
  · omega
  · injection h1 with h1 h3 h4
    omega
theorem OwnR.updX {w w' : World} {base : Nat} {e : TypeId} {size : Nat} {A : Option Addr} {n c g : Nat} {xs : List Value} (h : OwnR w base e size A n c xs) (u : Upd w w' g) (hb : g < base) : OwnR w' base e size A n c xs := by
  refine World.ownsRow.kept (row := some g) h ⟨u.os, u.tape, u.output, Nat.le_of_eq u.size.symm, fun k _ hk => u.block k fun e => hk (by rw [e])⟩ ?_
  cases hv : (Value.slice A n c).ownBlock with
  | none => exact .inl rfl
  | some k =>
    refine .inr fun e => ?_
    injection e with e
    have := (h.ge k hv).1
    omega
theorem msC_append (a b : List Mp) : msC (a ++ b) = msC a ++ msC b := by simp [msC]
end Go.Proofs.Ytonloimepfojdaa
