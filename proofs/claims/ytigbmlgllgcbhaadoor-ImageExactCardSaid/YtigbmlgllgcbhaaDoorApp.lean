/- Own law for append of bytes onto a row of the call's own, the source any slice of bytes. -/
import Derived.Test.YtigbmlgllgcbhaaDoorMake
import Derived.Laws.AppendOwn
import Derived.Laws.OwnMore
import Derived.Maps.AppendAt
import Derived.OwnWalk
import Derived.Lib.Hide
namespace Go.Proofs.YtigbmlgllgcbhaaDoor
set_option linter.unusedVariables false
open Go.RowKit
/-- The slice is a row of bytes at or above block base that no one else holds. -/
def OwnB (w : World) (base : Nat) (e : TypeId) (A : Option Addr) (n c : Nat) (bs : List UInt8) : Prop := w.ownsRow base e 1 (.slice A n c) n (bs.map bv)
theorem OwnB.nil (w : World) (base : Nat) (e : TypeId) : OwnB w base e none 0 0 [] := World.ownsRow_nil w base e 1
theorem OwnB.len {w : World} {base : Nat} {e : TypeId} {A : Option Addr} {n c : Nat} {bs : List UInt8} (h : OwnB w base e A n c bs) : n = bs.length := by
  have := h.1
  simp at this
  exact this.symm
theorem OwnB.form {w : World} {base : Nat} {e : TypeId} {A : Option Addr} {n c : Nat} {bs : List UInt8} (h : OwnB w base e A n c bs) (hn : 0 < n) :
    ∃ g, A = some ⟨g, 0, none⟩ ∧ base ≤ g ∧ g < w.heap.size ∧ n ≤ c := by
  rcases h.2 with ⟨h', h0⟩ | ⟨g, cap, cur, h', hb, hg, hnc, hcm, hcs, htake⟩
  · omega
  · injection h' with h1 h2 h3
    subst h1
    exact ⟨g, rfl, hb, (Array.getElem?_eq_some_iff.1 hg).1, by omega⟩
theorem OwnB.isB {w : World} {base : Nat} {e : TypeId} {A : Option Addr} {n c : Nat} {bs : List UInt8} (h : OwnB w base e A n c bs) : IsB w A n bs := by
  refine ⟨h.len, fun hn => ?_⟩
  obtain ⟨g, rfl, _, _, hc⟩ := h.form hn
  refine ⟨g, 0, rfl, fun i hi => ?_⟩
  have := World.ownsRow.cellAt (h : w.ownsRow base e 1 (.slice (some ⟨g, 0, none⟩) n c) n (bs.map bv)) i (by have := h.len; omega)
  rw [Nat.zero_add, this]
  simp [hi, bv]
theorem OwnB.ge {w : World} {base : Nat} {e : TypeId} {A : Option Addr} {n c : Nat} {bs : List UInt8} (h : OwnB w base e A n c bs) : ∀ k, (Value.slice A n c).ownBlock = some k → base ≤ k := fun k hk => (World.ownsRow.lt h k hk).1
theorem OwnB.alloc {w : World} {base : Nat} {e : TypeId} {A : Option Addr} {n c : Nat} {bs : List UInt8} (h : OwnB w base e A n c bs) (o : Obj) : OwnB (w.alloc o) base e A n c bs := World.ownsRow.alloc h o
theorem OwnB.below {w w' : World} {base : Nat} {e : TypeId} {A : Option Addr} {n c : Nat} {bs : List UInt8} (h : OwnB w base e A n c bs) (hb : Below w.heap.size w w') : OwnB w' base e A n c bs :=
  World.ownsRow.kept h (row := none) ⟨hb.os, hb.tape, hb.output, hb.size, fun k hk _ => hb.block k hk⟩ (by cases hv : (Value.slice A n c).ownBlock <;> simp)
/-- The start of a slice. -/
theorem IsB.pre {w : World} {A : Option Addr} {n : Nat} {bs : List UInt8} (h : IsB w A n bs) (k : Nat) (hk : k ≤ n) : IsB w A k (bs.take k) := by
  refine ⟨by have := h.1; simp; omega, fun h0 => ?_⟩
  obtain ⟨b, o, e, hc⟩ := h.2 (by omega)
  exact ⟨b, o, e, fun i hi => by
    have hi' : i < bs.length := by simp at hi; omega
    rw [hc i hi']; simp⟩
section
variable {P : Program} {ops : Array Oper} {rest : List Oper} {Q : Exit → Act → World → Prop} {a : Act} {w : World} {dst : Option Tmp} {typ : TypeId} {pos : String} {after : Array Edge}
theorem wp_append_b {o : Oper} (hgd : o.guard = none) (s x : Operand) (t : TypeId) (ho : o.op = .call { callee := .builtin .append, args := #[s, x], argTypes := #[t, t] }) {e : TypeId} {base n c m c' : Nat} {A B : Option Addr} {bs cs : List UInt8} (ht : P.underlying t = some (.slice e))
    (hinfo : (P.info? e).map (fun i => (i.zero, i.size, i.bytes)) = some (some (.int .u8 0), 1, 1)) (hown : OwnB w base e A n c bs) (hB : IsB w B m cs) (hlen : n + m ≤ 140737488355328) (hbase : base ≤ w.heap.size)
    (hs : a.eval s = .slice A n c) (hx : a.eval x = .slice B m c')
    (h : ∀ A' n' c'' w', Hid (n' = n + m) → OwnB w' base e A' n' c'' (bs ++ cs) → Below base w w' → w.grownBy w' (Value.slice A n c).ownBlock → ((Value.slice A' n' c'').ownBlock = (Value.slice A n c).ownBlock ∨ (Value.slice A' n' c'').ownBlock = some w.heap.size) → wpList P ops Q rest (a.put o.dst (.slice A' n' c'')) w') :
    wpList P ops Q (o :: rest) a w := by
  obtain ⟨i, hi, hz⟩ := Option.map_eq_some_iff.1 hinfo
  simp only [Prod.mk.injEq] at hz
  obtain ⟨hz0, hz1, hz2⟩ := hz
  have key : ∃ A' c'' w', (Builtin.append_ #[t, t] o.type #[.slice A n c, .slice B m c']).run P w = .ok (.slice A' (n + m) c'') w' ∧ OwnB w' base e A' (n + m) c'' (bs ++ cs) ∧ w.grownBy w' (Value.slice A n c).ownBlock ∧ ((Value.slice A' (n + m) c'').ownBlock = (Value.slice A n c).ownBlock ∨ (Value.slice A' (n + m) c'').ownBlock = some w.heap.size) := by
    rcases Nat.eq_zero_or_pos m with h0 | h0
    · subst h0
      obtain rfl : cs = [] := List.eq_nil_of_length_eq_zero hB.1.symm
      refine ⟨A, c, w, ?_, by simpa using hown, World.grownBy.refl w _, .inl rfl⟩
      rcases hown.2 with ⟨h', hn⟩ | ⟨g, cap, cur, h', _, _, hnc, _⟩
      · injection h' with h1 h2 h3
        subst h1; subst h2; subst h3
        cases B <;> simp [Builtin.append_, run_underlying ht, sizeOf, typeInfo, hi, Builtin.lenOf, Builtin.firstCells, loadCells, loadCellsFrom]
      · injection h' with h1 h2 h3
        subst h1; subst h3
        cases B <;> simp [Builtin.append_, run_underlying ht, sizeOf, typeInfo, hi, Builtin.lenOf, Builtin.firstCells, hnc, storeCells, loadCells, loadCellsFrom]
    · obtain ⟨ad, rfl, hsrc⟩ := hB.src h0
      obtain ⟨v', w', hr, h2, h3, h4, h5⟩ := run_append_own_at (P := P) w base t o.type e i _ 1 1 ht hi hz0 hz1 hz2 rfl (by omega) (.slice A n c) n (bs.map bv) hown ad m c' (cs.map bv)
        (by simp [← hB.1]) hsrc (bv_one cs) (by simp only [maxLen]; omega) (by omega) hbase
      rcases h2.2 with ⟨rfl, hn0⟩ | ⟨g, cap, cur, rfl, rest'⟩
      · omega
      · exact ⟨_, _, _, hr, by unfold OwnB; rw [List.map_append]; exact h2, h3, h5⟩
  obtain ⟨A', c'', w', hr, h2, h3, h5⟩ := key
  refine wpList_plain hgd fun K hK => ?_
  unfold Oper.wp execOp
  simp only [ho, resolve, invoke, builtin, Sem.run_bind, Sem.run_pure, Result.andThen_ok, List.map_toArray, List.map_cons, List.map_nil, hs, hx, hr]
  exact hK _ _ (h _ _ _ _ (Lib.hid rfl) h2 ((Below.refl _ _).grown h3 hbase hown.ge) h3 h5)
end
end Go.Proofs.YtigbmlgllgcbhaaDoor
