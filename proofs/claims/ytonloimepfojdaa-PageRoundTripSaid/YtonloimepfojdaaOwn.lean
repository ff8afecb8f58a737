/- A growing slice of cells of whatever size, of the call's own; a slice literal of one struct; a slice read as cells. -/
import Derived.Test.YtonloimepfojdaaApp
import Derived.Great.BuildSlice
namespace Go.Proofs.Ytonloimepfojdaa
open Go.RowKit
set_option linter.unusedVariables false
/-- The slice is a row of cells, 'size' an element, at or above block base that no one else holds. -/
def OwnR (w : World) (base : Nat) (e : TypeId) (size : Nat) (A : Option Addr) (n c : Nat) (xs : List Value) : Prop := w.ownsRow base e size (.slice A n c) n xs
theorem OwnR.nil (w : World) (base : Nat) (e : TypeId) (size : Nat) : OwnR w base e size none 0 0 [] := World.ownsRow_nil w base e size
theorem OwnR.len {w : World} {base size : Nat} {e : TypeId} {A : Option Addr} {n c : Nat} {xs : List Value} (h : OwnR w base e size A n c xs) : xs.length = n * size := h.1
theorem OwnR.ge {w : World} {base size : Nat} {e : TypeId} {A : Option Addr} {n c : Nat} {xs : List Value} (h : OwnR w base e size A n c xs) : ∀ k, (Value.slice A n c).ownBlock = some k → base ≤ k ∧ k < w.heap.size := fun k hk => World.ownsRow.lt h k hk
theorem OwnR.alloc {w : World} {base size : Nat} {e : TypeId} {A : Option Addr} {n c : Nat} {xs : List Value} (h : OwnR w base e size A n c xs) (o : Obj) : OwnR (w.alloc o) base e size A n c xs := World.ownsRow.alloc h o
theorem OwnR.below {w w' : World} {base size : Nat} {e : TypeId} {A : Option Addr} {n c : Nat} {xs : List Value} (h : OwnR w base e size A n c xs) (hb : Below w.heap.size w w') : OwnR w' base e size A n c xs :=
  World.ownsRow.kept h (row := none) ⟨hb.os, hb.tape, hb.output, hb.size, fun k hk _ => hb.block k hk⟩ (by cases hv : (Value.slice A n c).ownBlock <;> simp)
section
variable {P : Program} {ops : Array Oper} {rest : List Oper} {Q : Exit → Act → World → Prop} {a : Act} {w : World} {dst : Option Tmp} {typ : TypeId} {pos : String} {after : Array Edge}
/-- One element appended: its cells lie at the start of block gb. -/
theorem append_one {t ty e : TypeId} {zv : Value} {size bytes base n c gb : Nat} {A : Option Addr} {xs news : List Value} (ht : P.underlying t = some (.slice e)) (hinfo : (P.info? e).map (fun i => (i.zero, i.size, i.bytes)) = some (some zv, size, bytes))
    (hzs : zv.cells.size = size) (hsz : 0 < size) (hown : OwnR w base e size A n c xs) (hnew : Row w gb e news.toArray) (hnl : news.length = size) (h1 : ∀ u ∈ news, u.oneCell' = true)
    (hlen : (n + 1) * bytes ≤ 140737488355328) (hn : n + 1 ≤ 140737488355328) (hbase : base ≤ w.heap.size) :
    ∃ A' c'' w', (Builtin.append_ #[t, t] ty #[.slice A n c, .slice (some ⟨gb, 0, none⟩) 1 1]).run P w = .ok (.slice A' (n + 1) c'') w' ∧ OwnR w' base e size A' (n + 1) c'' (xs ++ news) ∧ w.grownBy w' (Value.slice A n c).ownBlock ∧
      ((Value.slice A' (n + 1) c'').ownBlock = (Value.slice A n c).ownBlock ∨ (Value.slice A' (n + 1) c'').ownBlock = some w.heap.size) := by
  obtain ⟨i, hi, hz⟩ := Option.map_eq_some_iff.1 hinfo
  simp only [Prod.mk.injEq] at hz
  obtain ⟨hz0, hz1, hz2⟩ := hz
  obtain ⟨v', w', hr, h2, h3, h4, h5⟩ := run_append_own_at (P := P) w base t ty e i zv size bytes ht hi hz0 hz1 hz2 hzs hsz (.slice A n c) n xs hown ⟨gb, 0, none⟩ 1 1 news (by omega)
    (fun j u hu => by
      have : (⟨gb, 0, none⟩ : Addr).add j = ⟨gb, j, none⟩ := by rw [Addr.add_mid, Nat.zero_add]
      rw [this, hnew.cell j]
      simpa using hu) h1 (by simp only [maxLen]; omega) hlen hbase
  rcases h2.2 with ⟨rfl, hn0⟩ | ⟨g, cap, cur, rfl, rest'⟩
  · omega
  · exact ⟨_, _, _, hr, h2, h3, h5⟩
end
section
variable {P : Program} {K : Act → World → Prop} {Q : Exit → Act → World → Prop} {a : Act} {w : World} {dst : Option Tmp} {typ : TypeId} {pos : String} {after : Array Edge}
/-- One element appended. -/
theorem step_append {s x : Operand} {t e : TypeId} {zv : Value} {size bytes base n c gb : Nat} {A : Option Addr} {xs news : List Value} (ht : P.underlying t = some (.slice e)) (hinfo : (P.info? e).map (fun i => (i.zero, i.size, i.bytes)) = some (some zv, size, bytes))
    (hzs : zv.cells.size = size) (hsz : 0 < size) (hown : OwnR w base e size A n c xs) (hnew : Row w gb e news.toArray) (hnl : news.length = size) (h1 : ∀ u ∈ news, u.oneCell' = true)
    (hlen : (n + 1) * bytes ≤ 140737488355328) (hn : n + 1 ≤ 140737488355328) (hbase : base ≤ w.heap.size) (hs : a.eval s = .slice A n c) (hx : a.eval x = .slice (some ⟨gb, 0, none⟩) 1 1)
    (h : ∀ A' c'' w', OwnR w' base e size A' (n + 1) c'' (xs ++ news) → w.grownBy w' (Value.slice A n c).ownBlock →
      ((Value.slice A' (n + 1) c'').ownBlock = (Value.slice A n c).ownBlock ∨ (Value.slice A' (n + 1) c'').ownBlock = some w.heap.size) → K (a.put dst (.slice A' (n + 1) c'')) w') :
    Oper.wp P { dst := dst, op := .call { callee := .builtin .append, args := #[s, x], argTypes := #[t, t] }, type := typ, pos := pos, after := after, guard := none } a w K Q := by
  obtain ⟨A', c'', w', hr, h2, h3, h5⟩ := append_one (P := P) (ty := typ) ht hinfo hzs hsz hown hnew hnl h1 hlen hn hbase
  unfold Oper.wp execOp
  simp only [resolve, invoke, builtin, Sem.run_bind, Sem.run_pure, Result.andThen_ok, List.map_toArray, List.map_cons, List.map_nil, hs, hx, hr]
  exact h _ _ _ h2 h3 h5
theorem wp_append_one {ops : Array Oper} {rest : List Oper} {Q : Exit → Act → World → Prop} {s x : Operand} {t e : TypeId} {zv : Value} {size bytes base n c gb : Nat} {A : Option Addr} {xs news : List Value} (ht : P.underlying t = some (.slice e)) (hinfo : (P.info? e).map (fun i => (i.zero, i.size, i.bytes)) = some (some zv, size, bytes))
    (hzs : zv.cells.size = size) (hsz : 0 < size) (hown : OwnR w base e size A n c xs) (hnew : Row w gb e news.toArray) (hnl : news.length = size) (h1 : ∀ u ∈ news, u.oneCell' = true)
    (hlen : (n + 1) * bytes ≤ 140737488355328) (hn : n + 1 ≤ 140737488355328) (hbase : base ≤ w.heap.size) (hs : a.eval s = .slice A n c) (hx : a.eval x = .slice (some ⟨gb, 0, none⟩) 1 1)
    (h : ∀ A' c'' w', OwnR w' base e size A' (n + 1) c'' (xs ++ news) → w.grownBy w' (Value.slice A n c).ownBlock →
      ((Value.slice A' (n + 1) c'').ownBlock = (Value.slice A n c).ownBlock ∨ (Value.slice A' (n + 1) c'').ownBlock = some w.heap.size) → wpList P ops Q rest (a.put dst (.slice A' (n + 1) c'')) w') :
    wpList P ops Q ({ dst := dst, op := .call { callee := .builtin .append, args := #[s, x], argTypes := #[t, t] }, type := typ, pos := pos, after := after, guard := none } :: rest) a w :=
  wpList_plain rfl fun K hK => step_append ht hinfo hzs hsz hown hnew hnl h1 hlen hn hbase hs hx fun A' c'' w' h1 h2 h3 => hK _ _ (h A' c'' w' h1 h2 h3)
end
section
variable {P : Program} {K : Act → World → Prop} {Q : Exit → Act → World → Prop} {a : Act} {w : World} {dst : Option Tmp} {typ : TypeId} {pos : String} {after : Array Edge}
/-- A slice literal of one struct. -/
theorem step_build_one {t e : TypeId} {x : Operand} {L : Array Value} {zv : Value} {size bytes : Nat} (hu : P.underlying t = some (.slice e)) (hinfo : (P.info? e).map (fun i => (i.zero, i.size, i.bytes)) = some (some zv, size, bytes)) (hL : L.size = size) (hsz : 0 < size) (hsm : size ≤ 1000)
    (hx : a.eval x = .agg L) (h : K (a.put dst (.slice (some ⟨w.heap.size, 0, none⟩) 1 1)) (w.alloc (.cells L e))) :
    Oper.wp P { dst := dst, op := .buildSlice t 1 #[(0, x)], type := typ, pos := pos, after := after, guard := none } a w K Q := by
  obtain ⟨i, hi, hz⟩ := Option.map_eq_some_iff.1 hinfo
  simp only [Prod.mk.injEq] at hz
  obtain ⟨hz0, hz1, hz2⟩ := hz
  refine wp_buildSlice (o := { dst := dst, op := .buildSlice t 1 #[(0, x)], type := typ, pos := pos, after := after, guard := none }) t e 1 #[(0, x)] rfl L i zv hu hi hz0 (by omega) (by omega) ?_ h
  have e1 : (#[(0, x)].map fun (i, x) => (i, a.eval x)).toList = (([Value.agg L] : List Value).zipIdx 0).map fun x => (x.2, x.1) := by simp [hx]
  rw [e1, hz1, Great.fill_whole hsz [Value.agg L] _ (fun v hv => by obtain rfl := List.mem_singleton.1 hv; exact hL) (by simp)]
  simp [Value.cells]
theorem wp_build_one {ops : Array Oper} {rest : List Oper} {Q : Exit → Act → World → Prop} {t e : TypeId} {x : Operand} {L : Array Value} {zv : Value} {size bytes : Nat} (hu : P.underlying t = some (.slice e)) (hinfo : (P.info? e).map (fun i => (i.zero, i.size, i.bytes)) = some (some zv, size, bytes)) (hL : L.size = size) (hsz : 0 < size) (hsm : size ≤ 1000)
    (hx : a.eval x = .agg L) (h : wpList P ops Q rest (a.put dst (.slice (some ⟨w.heap.size, 0, none⟩) 1 1)) (w.alloc (.cells L e))) :
    wpList P ops Q ({ dst := dst, op := .buildSlice t 1 #[(0, x)], type := typ, pos := pos, after := after, guard := none } :: rest) a w :=
  wpList_plain rfl fun K hK => step_build_one hu hinfo hL hsz hsm hx (hK _ _ h)
end
/-- The slice at A of n elements of 'size' cells each reads in w as the cells xs. -/
def IsC (w : World) (A : Option Addr) (n size : Nat) (xs : List Value) : Prop := xs.length = n * size ∧ (0 < n → ∃ b o, A = some ⟨b, o, none⟩ ∧ ∀ j v, xs[j]? = some v → w.cell? ⟨b, o + j, none⟩ = some v)
theorem IsC.nil (w : World) (A : Option Addr) (size : Nat) : IsC w A 0 size [] := ⟨by simp, fun h => absurd h (by omega)⟩
theorem IsC.below {w w' : World} {A : Option Addr} {n size : Nat} {xs : List Value} (h : IsC w A n size xs) (hb : Below w.heap.size w w') : IsC w' A n size xs := by
  refine ⟨h.1, fun hn => ?_⟩
  obtain ⟨b, o, e, hc⟩ := h.2 hn
  exact ⟨b, o, e, fun j v hv => (hb.cell (p := ⟨b, o + j, none⟩) (block_lt_of_cell (hc j v hv))).trans (hc j v hv)⟩
theorem OwnR.isC {w : World} {base size : Nat} {e : TypeId} {A : Option Addr} {n c : Nat} {xs : List Value} (h : OwnR w base e size A n c xs) : IsC w A n size xs := by
  refine ⟨h.len, fun hn => ?_⟩
  rcases h.2 with ⟨_, h2⟩ | ⟨g, cap, cur, h1, _⟩
  · omega
  · injection h1 with h1 _ _
    subst h1
    refine ⟨g, 0, rfl, fun j v hv => ?_⟩
    have hj : j < n * size := by have := (List.getElem?_eq_some_iff.1 hv).1; rwa [h.len] at this
    rw [Nat.zero_add, World.ownsRow.cellAt h j hj]
    exact hv
end Go.Proofs.Ytonloimepfojdaa
