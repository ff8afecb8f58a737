/- A growing slice of the call's own, with elements of any kind: what keeps it, one element appended. Blocks of other types are kept. -/
import Derived.Test.YtigbmlgllgcbhaaDoorCal
import Derived.Laws.AppendOwn
import Derived.Laws.OwnMore
import Derived.Maps.AppendAt
import Derived.OwnWalk
namespace Go.Proofs.YtigbmlgllgcbhaaDoor
open Go.RowKit
set_option linter.unusedVariables false
def OwnV (w : World) (base : Nat) (e : TypeId) (size : Nat) (A : Option Addr) (n c : Nat) (xs : List Value) : Prop := w.ownsRow base e size (.slice A n c) n xs
/-- Blocks of other types than these are as they were. -/
def Keeps (ts : List TypeId) (w w' : World) : Prop := w.heap.size ≤ w'.heap.size ∧ ∀ (g : Nat) (t : TypeId) (cs : Array Value) (fr : Nat × Nat), w.heap[g]? = some (Obj.cells cs t fr) → t ∉ ts → w'.heap[g]? = some (Obj.cells cs t fr)
theorem Keeps.refl (ts : List TypeId) (w : World) : Keeps ts w w := ⟨Nat.le_refl _, fun _ _ _ _ h _ => h⟩
theorem Keeps.trans {ts : List TypeId} {a b c : World} (h : Keeps ts a b) (k : Keeps ts b c) : Keeps ts a c := ⟨Nat.le_trans h.1 k.1, fun g t cs fr hg ht => k.2 g t cs fr (h.2 g t cs fr hg ht) ht⟩
theorem Keeps.below {ts : List TypeId} {w w' : World} (hb : Below w.heap.size w w') : Keeps ts w w' := ⟨hb.size, fun g t cs fr hg _ => (hb.block g (Array.getElem?_eq_some_iff.1 hg).1).trans hg⟩
theorem Keeps.upd {ts : List TypeId} {w w' : World} {g : Nat} {t : TypeId} {cs : Array Value} (u : Upd w w' g) (h : Row w g t cs) (ht : t ∈ ts) : Keeps ts w w' := ⟨Nat.le_of_eq u.size.symm, fun g' t' cs' fr hg hn => by
  by_cases e : g' = g
  · subst e
    have e2 := h.symm.trans hg
    injection e2 with e2
    injection e2 with e3 e4 e5
    subst e4
    exact absurd ht hn
  · exact (u.block g' e).trans hg⟩
theorem Keeps.grown {ts : List TypeId} {w w' : World} {row : Option Nat} (h : w.grownBy w' row) (hr : ∀ k, row = some k → ∃ t cs fr, w.heap[k]? = some (Obj.cells cs t fr) ∧ t ∈ ts) : Keeps ts w w' := ⟨h.size, fun g t cs fr hg hn => by
  refine (h.block g (Array.getElem?_eq_some_iff.1 hg).1 fun e => ?_).trans hg
  obtain ⟨t', cs', fr', h', ht'⟩ := hr g e.symm
  have e2 := h'.symm.trans hg
  injection e2 with e2
  injection e2 with e3 e4 e5
  subst e4
  exact hn ht'⟩
theorem Keeps.row {ts : List TypeId} {w w' : World} {g : Nat} {t : TypeId} {cs : Array Value} (k : Keeps ts w w') (h : Row w g t cs) (ht : t ∉ ts) : Row w' g t cs := k.2 g t cs _ h ht
theorem OwnV.keeps {ts : List TypeId} {w w' : World} {base size : Nat} {e : TypeId} {A : Option Addr} {n c : Nat} {xs : List Value} (h : OwnV w base e size A n c xs) (k : Keeps ts w w') (he : e ∉ ts) : OwnV w' base e size A n c xs := by
  obtain ⟨h1, h2⟩ := h
  refine ⟨h1, ?_⟩
  rcases h2 with h2 | ⟨g, cap, cur, e1, hb, hg, r⟩
  · exact .inl h2
  · exact .inr ⟨g, cap, cur, e1, hb, k.2 g e cur _ hg he, r⟩
theorem OwnB.keeps {ts : List TypeId} {w w' : World} {base : Nat} {e : TypeId} {A : Option Addr} {n c : Nat} {bs : List UInt8} (h : OwnB w base e A n c bs) (k : Keeps ts w w') (he : e ∉ ts) : OwnB w' base e A n c bs := OwnV.keeps (size := 1) h k he
theorem OwnB.lower {w : World} {base b2 : Nat} {e : TypeId} {A : Option Addr} {n c : Nat} {bs : List UInt8} (h : OwnB w base e A n c bs) (hb : b2 ≤ base) : OwnB w b2 e A n c bs := by
  obtain ⟨h1, h2⟩ := h
  refine ⟨h1, ?_⟩
  rcases h2 with h2 | ⟨g, cap, cur, e1, hg, r⟩
  · exact .inl h2
  · exact .inr ⟨g, cap, cur, e1, Nat.le_trans hb hg, r⟩
theorem OwnV.nil (w : World) (base : Nat) (e : TypeId) (size : Nat) : OwnV w base e size none 0 0 [] := World.ownsRow_nil w base e size
theorem OwnV.ge {w : World} {base size : Nat} {e : TypeId} {A : Option Addr} {n c : Nat} {xs : List Value} (h : OwnV w base e size A n c xs) : ∀ k, (Value.slice A n c).ownBlock = some k → base ≤ k ∧ k < w.heap.size := fun k hk => World.ownsRow.lt h k hk
theorem OwnV.cap {w : World} {base size : Nat} {e : TypeId} {A : Option Addr} {n c : Nat} {xs : List Value} (h : OwnV w base e size A n c xs) : n ≤ c := by
  rcases h.2 with ⟨h1, h2⟩ | ⟨g, cap, cur, h1, _, _, h2, _⟩
  · omega
  · injection h1 with h1 h3 h4
    omega
theorem OwnV.typed {w : World} {base size : Nat} {e : TypeId} {A : Option Addr} {n c : Nat} {xs : List Value} (h : OwnV w base e size A n c xs) : ∀ k, (Value.slice A n c).ownBlock = some k → ∃ t cs fr, w.heap[k]? = some (Obj.cells cs t fr) ∧ t ∈ [e] := fun k hk => by
  rcases h.2 with ⟨h1, h2⟩ | ⟨g, cap, cur, h1, _, hg, _⟩
  · rw [h1] at hk
    cases hk
  · rw [h1] at hk
    injection hk with hk
    subst hk
    exact ⟨e, cur, _, hg, List.mem_singleton.2 rfl⟩
theorem OwnV.form {w : World} {base size : Nat} {e : TypeId} {A : Option Addr} {n c : Nat} {xs : List Value} (h : OwnV w base e size A n c xs) (hn : 0 < n) : ∃ g, A = some ⟨g, 0, none⟩ ∧ base ≤ g ∧ g < w.heap.size := by
  rcases h.2 with ⟨_, h0⟩ | ⟨g, cap, cur, h', hb, hg, _⟩
  · omega
  · injection h' with h1 h2 h3
    subst h1
    exact ⟨g, rfl, hb, (Array.getElem?_eq_some_iff.1 hg).1⟩
theorem OwnV.below {w w' : World} {base size : Nat} {e : TypeId} {A : Option Addr} {n c : Nat} {xs : List Value} (h : OwnV w base e size A n c xs) (hb : Below w.heap.size w w') : OwnV w' base e size A n c xs := h.keeps (ts := []) (Keeps.below hb) (by simp)
section
variable {P : Program} {K : Act → World → Prop} {Q : Exit → Act → World → Prop} {a : Act} {w : World} {dst : Option Tmp} {typ : TypeId} {pos : String} {after : Array Edge}
theorem append_v {t ty e : TypeId} {zv : Value} {size bytes base n c gb : Nat} {A : Option Addr} {xs news : List Value} (ht : P.underlying t = some (.slice e)) (hinfo : (P.info? e).map (fun i => (i.zero, i.size, i.bytes)) = some (some zv, size, bytes))
    (hzs : zv.cells.size = size) (hsz : 0 < size) (hown : OwnV w base e size A n c xs) (hnew : Row w gb e news.toArray) (hnl : news.length = size) (h1 : ∀ u ∈ news, u.oneCell' = true)
    (hlen : (n + 1) * bytes ≤ 140737488355328) (hn : n + 1 ≤ 140737488355328) (hbase : base ≤ w.heap.size) :
    ∃ A' c'' w', (Builtin.append_ #[t, t] ty #[.slice A n c, .slice (some ⟨gb, 0, none⟩) 1 1]).run P w = .ok (.slice A' (n + 1) c'') w' ∧ OwnV w' base e size A' (n + 1) c'' (xs ++ news) ∧ w.grownBy w' (Value.slice A n c).ownBlock ∧
      ((Value.slice A' (n + 1) c'').ownBlock = (Value.slice A n c).ownBlock ∨ (Value.slice A' (n + 1) c'').ownBlock = some w.heap.size) := by
  obtain ⟨i, hi, hz⟩ := Option.map_eq_some_iff.1 hinfo
  simp only [Prod.mk.injEq] at hz
  obtain ⟨hz0, hz1, hz2⟩ := hz
  obtain ⟨v', w', hr, h2, h3, h4, h5⟩ := run_append_own_at (P := P) w base t ty e i zv size bytes ht hi hz0 hz1 hz2 hzs hsz (.slice A n c) n xs hown ⟨gb, 0, none⟩ 1 1 news (by omega)
    (fun j u hu => by
      have : (⟨gb, 0, none⟩ : Addr).add j = ⟨gb, j, none⟩ := by rw [Addr.add_mid, Nat.zero_add]
      rw [this, hnew.cell j]
      simpa using hu) h1 (by simp only [maxLen]; omega) hlen hbase
  rcases h2.2 with ⟨rfl, hn0⟩ | ⟨g, cap, cur, rfl, rest'⟩
  · omega
  · exact ⟨_, _, _, hr, h2, h3, h5⟩
theorem step_append_v {s x : Operand} {t e : TypeId} {zv : Value} {size bytes base n c gb : Nat} {A : Option Addr} {xs news : List Value} (ht : P.underlying t = some (.slice e)) (hinfo : (P.info? e).map (fun i => (i.zero, i.size, i.bytes)) = some (some zv, size, bytes))
    (hzs : zv.cells.size = size) (hsz : 0 < size) (hown : OwnV w base e size A n c xs) (hnew : Row w gb e news.toArray) (hnl : news.length = size) (h1 : ∀ u ∈ news, u.oneCell' = true)
    (hlen : (n + 1) * bytes ≤ 140737488355328) (hn : n + 1 ≤ 140737488355328) (hbase : base ≤ w.heap.size) (hs : a.eval s = .slice A n c) (hx : a.eval x = .slice (some ⟨gb, 0, none⟩) 1 1)
    (h : ∀ A' c'' w', OwnV w' base e size A' (n + 1) c'' (xs ++ news) → w.grownBy w' (Value.slice A n c).ownBlock →
      ((Value.slice A' (n + 1) c'').ownBlock = (Value.slice A n c).ownBlock ∨ (Value.slice A' (n + 1) c'').ownBlock = some w.heap.size) → K (a.put dst (.slice A' (n + 1) c'')) w') :
    Oper.wp P { dst := dst, op := .call { callee := .builtin .append, args := #[s, x], argTypes := #[t, t] }, type := typ, pos := pos, after := after, guard := none } a w K Q := by
  obtain ⟨A', c'', w', hr, h2, h3, h5⟩ := append_v (P := P) (ty := typ) ht hinfo hzs hsz hown hnew hnl h1 hlen hn hbase
  unfold Oper.wp execOp
  simp only [resolve, invoke, builtin, Sem.run_bind, Sem.run_pure, Result.andThen_ok, List.map_toArray, List.map_cons, List.map_nil, hs, hx, hr]
  exact h _ _ _ h2 h3 h5
end
end Go.Proofs.YtigbmlgllgcbhaaDoor
