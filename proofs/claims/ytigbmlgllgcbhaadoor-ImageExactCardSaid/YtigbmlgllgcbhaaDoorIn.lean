/- Slices of int: read, appended to. -/
import Derived.Test.YtigbmlgllgcbhaaDoorCpy
namespace Go.Proofs.YtigbmlgllgcbhaaDoor
open Go.RowKit
set_option linter.unusedVariables false
/-- The slice at A of n elements reads in w as the bytes bs. -/
def IsN (w : World) (A : Option Addr) (n : Nat) (bs : List Int) : Prop :=
  n = bs.length ∧ (0 < n → ∃ b o, A = some ⟨b, o, none⟩ ∧ ∀ i (h : i < bs.length), w.cell? ⟨b, o + i, none⟩ = some (.int .i64 bs[i]))
theorem IsN.nil (w : World) (A : Option Addr) : IsN w A 0 [] := ⟨rfl, fun h => absurd h (by omega)⟩
theorem IsN.below {w w' : World} {A : Option Addr} {n : Nat} {bs : List Int} (h : IsN w A n bs) (hb : Below w.heap.size w w') : IsN w' A n bs := by
  refine ⟨h.1, fun hn => ?_⟩
  obtain ⟨b, o, e, hc⟩ := h.2 hn
  exact ⟨b, o, e, fun i hi => (hb.cell (p := ⟨b, o + i, none⟩) (block_lt_of_cell (hc i hi))).trans (hc i hi)⟩
theorem IsN.at_ {w : World} {A : Option Addr} {n : Nat} {bs : List Int} (h : IsN w A n bs) (hn : 0 < n) :
    ∃ b o, A = some ⟨b, o, none⟩ ∧ b < w.heap.size ∧ ∀ i (h : i < bs.length), w.cell? ⟨b, o + i, none⟩ = some (.int .i64 bs[i]) := by
  obtain ⟨b, o, e, hc⟩ := h.2 hn
  exact ⟨b, o, e, block_lt_of_cell (hc 0 (by have := h.1; omega)), hc⟩
def iv (x : Int) : Value := .int .i64 x
theorem IsN.src {w : World} {A : Option Addr} {n : Nat} {bs : List Int} (h : IsN w A n bs) (hn : 0 < n) : ∃ ad, A = some ad ∧ ∀ j v, (bs.map iv)[j]? = some v → w.cell? (ad.add j) = some v := by
  obtain ⟨b, o, e, hc⟩ := h.2 hn
  refine ⟨⟨b, o, none⟩, e, fun j v hv => ?_⟩
  obtain ⟨hj, hv'⟩ := List.getElem?_eq_some_iff.1 hv
  simp only [List.length_map] at hj
  rw [Addr.add_mid, hc j hj, ← hv']
  simp [iv]
theorem iv_one (l : List Int) : ∀ v ∈ l.map iv, v.oneCell' = true := by
  intro v hv
  obtain ⟨x, _, rfl⟩ := List.mem_map.1 hv
  rfl
theorem IsN.of_row {w : World} {g : Nat} {t : TypeId} {bs : List Int} (h : Row w g t (bs.map iv).toArray) : IsN w (some ⟨g, 0, none⟩) bs.length bs := by
  refine ⟨rfl, fun _ => ⟨g, 0, rfl, fun i hi => ?_⟩⟩
  rw [Nat.zero_add, h.cell i]
  simp [hi, iv]
/-- The slice is a row of bytes at or above block base that no one else holds. -/
def OwnN (w : World) (base : Nat) (e : TypeId) (A : Option Addr) (n c : Nat) (bs : List Int) : Prop := w.ownsRow base e 1 (.slice A n c) n (bs.map iv)
theorem OwnN.nil (w : World) (base : Nat) (e : TypeId) : OwnN w base e none 0 0 [] := World.ownsRow_nil w base e 1
theorem OwnN.len {w : World} {base : Nat} {e : TypeId} {A : Option Addr} {n c : Nat} {bs : List Int} (h : OwnN w base e A n c bs) : n = bs.length := by
  have := h.1
  simp at this
  exact this.symm
theorem OwnN.form {w : World} {base : Nat} {e : TypeId} {A : Option Addr} {n c : Nat} {bs : List Int} (h : OwnN w base e A n c bs) (hn : 0 < n) :
    ∃ g, A = some ⟨g, 0, none⟩ ∧ base ≤ g ∧ g < w.heap.size ∧ n ≤ c := by
  rcases h.2 with ⟨h', h0⟩ | ⟨g, cap, cur, h', hb, hg, hnc, hcm, hcs, htake⟩
  · omega
  · injection h' with h1 h2 h3
    subst h1
    exact ⟨g, rfl, hb, (Array.getElem?_eq_some_iff.1 hg).1, by omega⟩
theorem OwnN.isB {w : World} {base : Nat} {e : TypeId} {A : Option Addr} {n c : Nat} {bs : List Int} (h : OwnN w base e A n c bs) : IsN w A n bs := by
  refine ⟨h.len, fun hn => ?_⟩
  obtain ⟨g, rfl, _, _, hc⟩ := h.form hn
  refine ⟨g, 0, rfl, fun i hi => ?_⟩
  have := World.ownsRow.cellAt (h : w.ownsRow base e 1 (.slice (some ⟨g, 0, none⟩) n c) n (bs.map iv)) i (by have := h.len; omega)
  rw [Nat.zero_add, this]
  simp [hi, iv]
theorem OwnN.ge {w : World} {base : Nat} {e : TypeId} {A : Option Addr} {n c : Nat} {bs : List Int} (h : OwnN w base e A n c bs) : ∀ k, (Value.slice A n c).ownBlock = some k → base ≤ k := fun k hk => (World.ownsRow.lt h k hk).1
theorem OwnN.alloc {w : World} {base : Nat} {e : TypeId} {A : Option Addr} {n c : Nat} {bs : List Int} (h : OwnN w base e A n c bs) (o : Obj) : OwnN (w.alloc o) base e A n c bs := World.ownsRow.alloc h o
theorem OwnN.below {w w' : World} {base : Nat} {e : TypeId} {A : Option Addr} {n c : Nat} {bs : List Int} (h : OwnN w base e A n c bs) (hb : Below w.heap.size w w') : OwnN w' base e A n c bs :=
  World.ownsRow.kept h (row := none) ⟨hb.os, hb.tape, hb.output, hb.size, fun k hk _ => hb.block k hk⟩ (by cases hv : (Value.slice A n c).ownBlock <;> simp)
/-- The start of a slice. -/
theorem IsN.pre {w : World} {A : Option Addr} {n : Nat} {bs : List Int} (h : IsN w A n bs) (k : Nat) (hk : k ≤ n) : IsN w A k (bs.take k) := by
  refine ⟨by have := h.1; simp; omega, fun h0 => ?_⟩
  obtain ⟨b, o, e, hc⟩ := h.2 (by omega)
  exact ⟨b, o, e, fun i hi => by
    have hi' : i < bs.length := by simp at hi; omega
    rw [hc i hi']; simp⟩
section
variable {P : Program} {ops : Array Oper} {rest : List Oper} {Q : Exit → Act → World → Prop} {a : Act} {w : World} {dst : Option Tmp} {typ : TypeId} {pos : String} {after : Array Edge}
theorem wp_append_n {o : Oper} (hgd : o.guard = none) (s x : Operand) (t : TypeId) (ho : o.op = .call { callee := .builtin .append, args := #[s, x], argTypes := #[t, t] }) {e : TypeId} {base n c m c' : Nat} {A B : Option Addr} {bs cs : List Int} (ht : P.underlying t = some (.slice e))
    (hinfo : (P.info? e).map (fun i => (i.zero, i.size, i.bytes)) = some (some (.int .i64 0), 1, 8)) (hown : OwnN w base e A n c bs) (hB : IsN w B m cs) (hlen : (n + m) * 8 ≤ 140737488355328) (hbase : base ≤ w.heap.size)
    (hs : a.eval s = .slice A n c) (hx : a.eval x = .slice B m c')
    (h : ∀ A' n' c'' w', Hid (n' = n + m) → OwnN w' base e A' n' c'' (bs ++ cs) → Below base w w' → w.grownBy w' (Value.slice A n c).ownBlock → ((Value.slice A' n' c'').ownBlock = (Value.slice A n c).ownBlock ∨ (Value.slice A' n' c'').ownBlock = some w.heap.size) → wpList P ops Q rest (a.put o.dst (.slice A' n' c'')) w') :
    wpList P ops Q (o :: rest) a w := by
  obtain ⟨i, hi, hz⟩ := Option.map_eq_some_iff.1 hinfo
  simp only [Prod.mk.injEq] at hz
  obtain ⟨hz0, hz1, hz2⟩ := hz
  have key : ∃ A' c'' w', (Builtin.append_ #[t, t] o.type #[.slice A n c, .slice B m c']).run P w = .ok (.slice A' (n + m) c'') w' ∧ OwnN w' base e A' (n + m) c'' (bs ++ cs) ∧ w.grownBy w' (Value.slice A n c).ownBlock ∧ ((Value.slice A' (n + m) c'').ownBlock = (Value.slice A n c).ownBlock ∨ (Value.slice A' (n + m) c'').ownBlock = some w.heap.size) := by
    rcases Nat.eq_zero_or_pos m with h0 | h0
    · subst h0
      obtain rfl : cs = [] := List.eq_nil_of_length_eq_zero hB.1.symm
      refine ⟨A, c, w, ?_, by simpa using hown, World.grownBy.refl w _, .inl rfl⟩
      rcases hown.2 with ⟨h', hn⟩ | ⟨g, cap, cur, h', _, _, hnc, _⟩
      · injection h' with h1 h2 h3
        subst h1; subst h2; subst h3
        cases B <;> simp [Builtin.append_, run_underlying ht, sizeOf, typeInfo, hi, Builtin.lenOf, Builtin.firstCells, loadCells, loadCellsFrom]
      · injection h' with h1 h2 h3
        subst h1; subst h3
        cases B <;> simp [Builtin.append_, run_underlying ht, sizeOf, typeInfo, hi, Builtin.lenOf, Builtin.firstCells, hnc, storeCells, loadCells, loadCellsFrom]
    · obtain ⟨ad, rfl, hsrc⟩ := hB.src h0
      obtain ⟨v', w', hr, h2, h3, h4, h5⟩ := run_append_own_at (P := P) w base t o.type e i _ 1 8 ht hi hz0 hz1 hz2 rfl (by omega) (.slice A n c) n (bs.map iv) hown ad m c' (cs.map iv)
        (by simp [← hB.1]) hsrc (iv_one cs) (by simp only [maxLen]; omega) (by omega) hbase
      rcases h2.2 with ⟨rfl, hn0⟩ | ⟨g, cap, cur, rfl, rest'⟩
      · omega
      · exact ⟨_, _, _, hr, by unfold OwnN; rw [List.map_append]; exact h2, h3, h5⟩
  obtain ⟨A', c'', w', hr, h2, h3, h5⟩ := key
  refine wpList_plain hgd fun K hK => ?_
  unfold Oper.wp execOp
  simp only [ho, resolve, invoke, builtin, Sem.run_bind, Sem.run_pure, Result.andThen_ok, List.map_toArray, List.map_cons, List.map_nil, hs, hx, hr]
  exact hK _ _ (h _ _ _ _ (Lib.hid rfl) h2 ((Below.refl _ _).grown h3 hbase hown.ge) h3 h5)
end
section
variable {P : Program} {K : Act → World → Prop} {Q : Exit → Act → World → Prop} {a : Act} {w : World} {dst : Option Tmp} {typ : TypeId} {pos : String} {after : Array Edge} {gd : Option (Nat × Bool)}
theorem run_append_n {t e : TypeId} {base n c m c' : Nat} {A B : Option Addr} {bs cs : List Int} (ht : P.underlying t = some (.slice e))
    (hinfo : (P.info? e).map (fun i => (i.zero, i.size, i.bytes)) = some (some (.int .i64 0), 1, 8)) (hown : OwnN w base e A n c bs) (hB : IsN w B m cs) (hlen : (n + m) * 8 ≤ 140737488355328) (hbase : base ≤ w.heap.size) :
    ∃ A' c'' w', (Builtin.append_ #[t, t] typ #[.slice A n c, .slice B m c']).run P w = .ok (.slice A' (n + m) c'') w' ∧ OwnN w' base e A' (n + m) c'' (bs ++ cs) ∧ w.grownBy w' (Value.slice A n c).ownBlock ∧ ((Value.slice A' (n + m) c'').ownBlock = (Value.slice A n c).ownBlock ∨ (Value.slice A' (n + m) c'').ownBlock = some w.heap.size) := by
  obtain ⟨i, hi, hz⟩ := Option.map_eq_some_iff.1 hinfo
  simp only [Prod.mk.injEq] at hz
  obtain ⟨hz0, hz1, hz2⟩ := hz
  rcases Nat.eq_zero_or_pos m with h0 | h0
  · subst h0
    obtain rfl : cs = [] := List.eq_nil_of_length_eq_zero hB.1.symm
    refine ⟨A, c, w, ?_, by simpa using hown, World.grownBy.refl w _, .inl rfl⟩
    rcases hown.2 with ⟨h', hn⟩ | ⟨g, cap, cur, h', _, _, hnc, _⟩
    · injection h' with h1 h2 h3
      subst h1; subst h2; subst h3
      cases B <;> simp [Builtin.append_, run_underlying ht, sizeOf, typeInfo, hi, Builtin.lenOf, Builtin.firstCells, loadCells, loadCellsFrom]
    · injection h' with h1 h2 h3
      subst h1; subst h3
      cases B <;> simp [Builtin.append_, run_underlying ht, sizeOf, typeInfo, hi, Builtin.lenOf, Builtin.firstCells, hnc, storeCells, loadCells, loadCellsFrom]
  · obtain ⟨ad, rfl, hsrc⟩ := hB.src h0
    obtain ⟨v', w', hr, h2, h3, h4, h5⟩ := run_append_own_at (P := P) w base t typ e i _ 1 8 ht hi hz0 hz1 hz2 rfl (by omega) (.slice A n c) n (bs.map iv) hown ad m c' (cs.map iv)
      (by simp [← hB.1]) hsrc (iv_one cs) (by simp only [maxLen]; omega) (by omega) hbase
    rcases h2.2 with ⟨rfl, hn0⟩ | ⟨g, cap, cur, rfl, rest'⟩
    · omega
    · exact ⟨_, _, _, hr, by unfold OwnN; rw [List.map_append]; exact h2, h3, h5⟩
/-- An append of bytes. -/
theorem step_append_n {s x : Operand} {t e : TypeId} {base n c m c' : Nat} {A B : Option Addr} {bs cs : List Int} (ht : P.underlying t = some (.slice e))
    (hinfo : (P.info? e).map (fun i => (i.zero, i.size, i.bytes)) = some (some (.int .i64 0), 1, 8)) (hown : OwnN w base e A n c bs) (hB : IsN w B m cs) (hlen : (n + m) * 8 ≤ 140737488355328) (hbase : base ≤ w.heap.size)
    (hs : a.eval s = .slice A n c) (hx : a.eval x = .slice B m c')
    (h : ∀ A' c'' w', OwnN w' base e A' (n + m) c'' (bs ++ cs) → Below base w w' → w.grownBy w' (Value.slice A n c).ownBlock → ((Value.slice A' (n + m) c'').ownBlock = (Value.slice A n c).ownBlock ∨ (Value.slice A' (n + m) c'').ownBlock = some w.heap.size) → K (a.put dst (.slice A' (n + m) c'')) w') :
    Oper.wp P { dst := dst, op := .call { callee := .builtin .append, args := #[s, x], argTypes := #[t, t] }, type := typ, pos := pos, after := after, guard := gd } a w K Q := by
  obtain ⟨A', c'', w', hr, h2, h3, h5⟩ := run_append_n (P := P) (typ := typ) (c' := c') ht hinfo hown hB hlen hbase
  unfold Oper.wp execOp
  simp only [resolve, invoke, builtin, Sem.run_bind, Sem.run_pure, Result.andThen_ok, List.map_toArray, List.map_cons, List.map_nil, hs, hx, hr]
  exact h _ _ _ h2 ((Below.refl _ _).grown h3 hbase hown.ge) h3 h5
/-- A copy of bytes: appended to nil. -/
theorem step_copy_n {s x : Operand} {t e : TypeId} {m c' : Nat} {B : Option Addr} {cs : List Int} (ht : P.underlying t = some (.slice e))
    (hinfo : (P.info? e).map (fun i => (i.zero, i.size, i.bytes)) = some (some (.int .i64 0), 1, 8)) (hB : IsN w B m cs) (hlen : m * 8 ≤ 140737488355328)
    (hs : a.eval s = .slice none 0 0) (hx : a.eval x = .slice B m c')
    (h : ∀ A' c'' w', OwnN w' w.heap.size e A' m c'' cs → Below w.heap.size w w' → K (a.put dst (.slice A' m c'')) w') :
    Oper.wp P { dst := dst, op := .call { callee := .builtin .append, args := #[s, x], argTypes := #[t, t] }, type := typ, pos := pos, after := after, guard := gd } a w K Q := by
  refine step_append_n (c' := c') ht hinfo (OwnN.nil w w.heap.size e) hB (by omega) (Nat.le_refl _) hs hx fun A' c'' w' h1 h2 h3 h4 => ?_
  simp only [Nat.zero_add] at h1 ⊢
  exact h A' c'' w' h1 h2
end
end Go.Proofs.YtigbmlgllgcbhaaDoor
