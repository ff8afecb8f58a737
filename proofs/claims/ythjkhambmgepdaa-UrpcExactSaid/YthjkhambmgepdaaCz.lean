/- Memory in colours: each block has one; what depends on the blocks of one colour alone is kept by whatever changes another colour's. Queues: slices of the call's own that may begin inside their row. -/
import Derived.Test.YthjkhambmgepdaaOwr
import Derived.ArgAppend
import Derived.Great.BuildSlice
namespace Go.Proofs.Ythjkhambmgepdaa
open Go.RowKit
set_option linter.unusedVariables false
/-- Only blocks of colour k have changed; there may be new ones. -/
structure Only (col : Nat → Nat) (k : Nat) (w w' : World) : Prop where
  os : w'.os = w.os
  tape : w'.tape = w.tape
  output : w'.output = w.output
  size : w.heap.size ≤ w'.heap.size
  block : ∀ x, x < w.heap.size → col x ≠ k → w'.heap[x]? = w.heap[x]?
/-- Blocks of colour 0 are as they were. -/
structure White (col : Nat → Nat) (w w' : World) : Prop where
  os : w'.os = w.os
  tape : w'.tape = w.tape
  output : w'.output = w.output
  size : w.heap.size ≤ w'.heap.size
  block : ∀ x, x < w.heap.size → col x = 0 → w'.heap[x]? = w.heap[x]?
/-- P holds, and goes on to hold as long as the blocks of colour k stay. -/
def Part (col : Nat → Nat) (k : Nat) (w : World) (P : World → Prop) : Prop := ∀ w', w.heap.size ≤ w'.heap.size → (∀ x, x < w.heap.size → col x = k → w'.heap[x]? = w.heap[x]?) → P w'
/-- Block b has colour k. -/
def paint (col : Nat → Nat) (b k : Nat) : Nat → Nat := fun x => if x = b then k else col x
theorem paint_self (col : Nat → Nat) (b k : Nat) : paint col b k b = k := if_pos rfl
theorem paint_other {col : Nat → Nat} {b k x : Nat} (h : x ≠ b) : paint col b k x = col x := if_neg h
section
variable {col : Nat → Nat} {k j b : Nat} {w w' a c : World} {P Q : World → Prop}
theorem Part.now (h : Part col k w P) : P w := h w (Nat.le_refl _) fun _ _ _ => rfl
theorem Part.only (h : Part col k w P) (o : Only col j w w') (hj : j ≠ k) : Part col k w' P := fun w2 hs hb => h w2 (Nat.le_trans o.size hs) fun x hx hc => (hb x (Nat.lt_of_lt_of_le hx o.size) hc).trans (o.block x hx (fun e => hj (e.symm.trans hc)))
theorem Part.below (h : Part col k w P) (hb : Below w.heap.size w w') : Part col k w' P := fun w2 hs hk => h w2 (Nat.le_trans hb.size hs) fun x hx hc => (hk x (Nat.lt_of_lt_of_le hx hb.size) hc).trans (hb.block x hx)
theorem Part.paint (h : Part col k w P) (hb : w.heap.size ≤ b ∨ col b = j) (hj : j ≠ k) : Part (paint col b j) k w P := fun w2 hs hk => h w2 hs fun x hx hc => hk x hx (by
  rw [paint_other]
  · exact hc
  · intro e
    subst e
    rcases hb with hb | hb
    · omega
    · exact hj (hb.symm.trans hc))
theorem Part.mono (h : Part col k w P) (hPQ : ∀ w, P w → Q w) : Part col k w Q := fun w2 hs hk => hPQ _ (h w2 hs hk)
theorem Only.below (hb : Below w.heap.size w w') : Only col k w w' := ⟨hb.os, hb.tape, hb.output, hb.size, fun x hx _ => hb.block x hx⟩
theorem Only.upd {g : Nat} (u : Upd w w' g) (hg : col g = k) : Only col k w w' := ⟨u.os, u.tape, u.output, Nat.le_of_eq u.size.symm, fun x hx hc => u.block x fun e => hc (by rw [e]; exact hg)⟩
theorem Only.grown {row : Option Nat} (h : w.grownBy w' row) (hr : ∀ b, row = some b → col b = k) : Only col k w w' := ⟨h.os, h.tape, h.output, h.size, fun x hx hc => h.block x hx fun e => hc (hr x e.symm)⟩
theorem Only.paint (h : Only col k w w') (hb : w.heap.size ≤ b ∨ col b = k) : Only (paint col b k) k w w' := ⟨h.os, h.tape, h.output, h.size, fun x hx hc => h.block x hx (by
  by_cases e : x = b
  · subst e
    rw [paint_self] at hc
    exact absurd rfl hc
  · rwa [paint_other e] at hc)⟩
theorem Only.trans (h : Only col k a w) (h2 : Only col k w c) : Only col k a c := ⟨h2.os.trans h.os, h2.tape.trans h.tape, h2.output.trans h.output, Nat.le_trans h.size h2.size, fun x hx hc => (h2.block x (Nat.lt_of_lt_of_le hx h.size) hc).trans (h.block x hx hc)⟩
theorem Only.white (h : Only col k w w') (hk : k ≠ 0) : White col w w' := ⟨h.os, h.tape, h.output, h.size, fun x hx hc => h.block x hx (by omega)⟩
theorem White.refl (col : Nat → Nat) (w : World) : White col w w := ⟨rfl, rfl, rfl, Nat.le_refl _, fun _ _ _ => rfl⟩
theorem White.below (hb : Below w.heap.size w w') : White col w w' := ⟨hb.os, hb.tape, hb.output, hb.size, fun x hx _ => hb.block x hx⟩
theorem White.trans (h : White col a w) (h2 : White col w c) : White col a c := ⟨h2.os.trans h.os, h2.tape.trans h.tape, h2.output.trans h.output, Nat.le_trans h.size h2.size, fun x hx hc => (h2.block x (Nat.lt_of_lt_of_le hx h.size) hc).trans (h.block x hx hc)⟩
/-- Behind a change of colours that leaves the white ones white. -/
theorem White.of {col' : Nat → Nat} (h : White col' w w') (hc : ∀ x, x < w.heap.size → col x = 0 → col' x = 0) : White col w w' := ⟨h.os, h.tape, h.output, h.size, fun x hx h0 => h.block x hx (hc x hx h0)⟩
theorem White.below_base {base : Nat} (h : White col w w') (hb : ∀ x, x < base → col x = 0) (hs : base ≤ w.heap.size) {W : World} (hB : Below base W w) : Below base W w' :=
  ⟨h.os.trans hB.os, h.tape.trans hB.tape, h.output.trans hB.output, Nat.le_trans hB.size h.size, fun x hx => (h.block x (Nat.lt_of_lt_of_le hx hs) (hb x hx)).trans (hB.block x hx)⟩
theorem Part.row {g : Nat} {t : TypeId} {cs : Array Value} (h : Row w g t cs) (hg : col g = k) : Part col k w (fun w => Row w g t cs) := fun w2 hs hb => (hb g h.lt hg).trans h
theorem IsB.of_same {A : Option Addr} {n : Nat} {bs : List UInt8} (h : IsB w A n bs) (hb : ∀ b o, A = some ⟨b, o, none⟩ → 0 < n → w'.heap[b]? = w.heap[b]?) : IsB w' A n bs := by
  refine ⟨h.1, fun hn => ?_⟩
  obtain ⟨b, o, e, hc⟩ := h.2 hn
  exact ⟨b, o, e, fun j hj => (World.cell?_of_block (w := w) (a := ⟨b, o + j, none⟩) (hb b o e hn)).trans (hc j hj)⟩
end
/-- A slice's block. -/
def blk (A : Option Addr) : Option Nat := A.map (·.block)
/-- A queue of the call's own: the slice may begin inside its row. -/
def OwnQ (w : World) (e : TypeId) (size : Nat) (A : Option Addr) (n c : Nat) (xs : List Value) : Prop :=
  xs.length = n * size ∧ ((A = none ∧ n = 0 ∧ c = 0) ∨ ∃ g o cur, A = some ⟨g, o, none⟩ ∧ Row w g e cur ∧ n ≤ c ∧ c ≤ maxLen ∧ o + c * size ≤ cur.size ∧ (cur.toList.drop o).take (n * size) = xs)
theorem OwnQ.nil (w : World) (e : TypeId) (size : Nat) : OwnQ w e size none 0 0 [] := ⟨by simp, .inl ⟨rfl, rfl, rfl⟩⟩
theorem OwnQ.cap {w : World} {e : TypeId} {size : Nat} {A : Option Addr} {n c : Nat} {xs : List Value} (h : OwnQ w e size A n c xs) : n ≤ c := by
  rcases h.2 with ⟨_, h1, h2⟩ | ⟨g, o, cur, _, _, h1, _⟩
  · omega
  · exact h1
theorem OwnQ.lt {w : World} {e : TypeId} {size : Nat} {A : Option Addr} {n c : Nat} {xs : List Value} (h : OwnQ w e size A n c xs) : ∀ b, blk A = some b → b < w.heap.size := by
  intro b hb
  rcases h.2 with ⟨h1, _⟩ | ⟨g, o, cur, h1, hr, _⟩
  · rw [h1] at hb; cases hb
  · rw [h1] at hb
    injection hb with hb
    subst hb
    exact hr.lt
theorem OwnQ.of_same {w w' : World} {e : TypeId} {size : Nat} {A : Option Addr} {n c : Nat} {xs : List Value} (h : OwnQ w e size A n c xs) (hb : ∀ b, blk A = some b → w'.heap[b]? = w.heap[b]?) : OwnQ w' e size A n c xs := by
  refine ⟨h.1, ?_⟩
  rcases h.2 with h1 | ⟨g, o, cur, h1, hr, h2⟩
  · exact .inl h1
  · exact .inr ⟨g, o, cur, h1, (hb g (by rw [h1]; rfl)).trans hr, h2⟩
theorem Part.own {col : Nat → Nat} {k : Nat} {w : World} {e : TypeId} {size : Nat} {A : Option Addr} {n c : Nat} {xs : List Value} (h : OwnQ w e size A n c xs) (hc : ∀ b, blk A = some b → col b = k) : Part col k w (fun w => OwnQ w e size A n c xs) :=
  fun w2 hs hb => h.of_same fun b h1 => hb b (h.lt b h1) (hc b h1)
theorem OwnQ.of_row {w : World} {base size : Nat} {e : TypeId} {A : Option Addr} {n c : Nat} {xs : List Value} (h : OwnV w base e size A n c xs) : OwnQ w e size A n c xs := by
  refine ⟨h.1, ?_⟩
  rcases h.2 with ⟨h1, h2⟩ | ⟨g, cap, cur, h1, _, hg, h3, h4, h5, h6⟩
  · injection h1 with h1 h3 h4
    exact .inl ⟨h1, h2, h4⟩
  · injection h1 with h1 h2 h7
    subst h1 h7
    exact .inr ⟨g, 0, cur, rfl, hg, h3, h4, by omega, by simpa using h6⟩
/-- The cells of the queue. -/
theorem OwnQ.cells {w : World} {e : TypeId} {size : Nat} {A : Option Addr} {n c : Nat} {xs : List Value} (h : OwnQ w e size A n c xs) (hn : 0 < n) : ∃ g o cur, A = some ⟨g, o, none⟩ ∧ Row w g e cur ∧ ∀ j u, xs[j]? = some u → w.cell? ⟨g, o + j, none⟩ = some u := by
  rcases h.2 with ⟨_, h1, _⟩ | ⟨g, o, cur, h1, hr, _, _, _, h2⟩
  · omega
  · refine ⟨g, o, cur, h1, hr, fun j u hu => ?_⟩
    rw [hr.cell]
    rw [← h2, List.getElem?_take] at hu
    split at hu
    · simpa [List.getElem?_drop] using hu
    · cases hu
theorem OwnQ.frozen {w : World} {e : TypeId} {size : Nat} {g o n c : Nat} {xs : List Value} (h : OwnQ w e size (some ⟨g, o, none⟩) n c xs) (i : Nat) : w.frozen? ⟨g, i, none⟩ = false := by
  rcases h.2 with ⟨h1, _⟩ | ⟨g', o', cur, h1, hr, _⟩
  · cases h1
  · injection h1 with h1
    injection h1 with h1 h2 h3
    subst h1
    exact hr.frozen i
/-- The queue without its first element. -/
theorem OwnQ.tail {w : World} {e : TypeId} {size g o n c : Nat} {xs : List Value} (h : OwnQ w e size (some ⟨g, o, none⟩) n c xs) (hn : 0 < n) : OwnQ w e size (some ⟨g, o + size, none⟩) (n - 1) (c - 1) (xs.drop size) := by
  rcases h.2 with ⟨h1, _⟩ | ⟨g', o', cur, h1, hr, h2, h3, h4, h5⟩
  · cases h1
  · injection h1 with h1
    injection h1 with h1 h6 h7
    subst h1 h6
    obtain ⟨m, rfl⟩ : ∃ m, n = m + 1 := ⟨n - 1, by omega⟩
    obtain ⟨d, rfl⟩ : ∃ d, c = d + 1 := ⟨c - 1, by omega⟩
    have hl := h.1
    rw [Nat.add_mul, Nat.one_mul] at hl h4
    refine ⟨by simp [hl], .inr ⟨g, o + size, cur, rfl, hr, by omega, by omega, by simp; omega, ?_⟩⟩
    rw [← h5, List.drop_take, List.drop_drop]
    congr 1
    simp [Nat.add_mul]
theorem OwnQ.tail0 {w : World} {e : TypeId} {size g o : Nat} {xs : List Value} (h : OwnQ w e size (some ⟨g, o, none⟩) 1 1 xs) : OwnQ w e size (some ⟨g, o, none⟩) 0 0 (xs.drop size) := by
  rcases h.2 with ⟨h1, _⟩ | ⟨g', o', cur, h1, hr, h2, h3, h4, h5⟩
  · cases h1
  · injection h1 with h1
    injection h1 with h1 h6 h7
    subst h1 h6
    have hl := h.1
    refine ⟨by rw [List.length_drop]; omega, .inr ⟨g, o, cur, rfl, hr, by omega, by omega, by omega, ?_⟩⟩
    rw [List.drop_of_length_le (l := xs) (by omega)]
    simp
section
variable {P : Program} {K : Act → World → Prop} {Q : Exit → Act → World → Prop} {a : Act} {w : World} {dst : Option Tmp} {typ : TypeId} {pos : String} {after : Array Edge}
/-- One element is appended. -/
theorem append_q {t ty e : TypeId} {zv : Value} {size bytes n c gb : Nat} {A : Option Addr} {xs news : List Value} (ht : P.underlying t = some (.slice e)) (hinfo : (P.info? e).map (fun i => (i.zero, i.size, i.bytes)) = some (some zv, size, bytes))
    (hzs : zv.cells.size = size) (hsz : 0 < size) (h : OwnQ w e size A n c xs) (hnew : Row w gb e news.toArray) (hnl : news.length = size) (h1 : ∀ u ∈ news, u.oneCell' = true)
    (hlen : (n + 1) * bytes ≤ 140737488355328) (hn : n + 1 ≤ 140737488355328) :
    ∃ A' c'' w', (Builtin.append_ #[t, t] ty #[.slice A n c, .slice (some ⟨gb, 0, none⟩) 1 1]).run P w = .ok (.slice A' (n + 1) c'') w' ∧ OwnQ w' e size A' (n + 1) c'' (xs ++ news) ∧ w.grownBy w' (blk A) ∧ ∃ b, blk A' = some b ∧ (blk A = some b ∨ w.heap.size ≤ b) := by
  have hnews : ∀ j u, news[j]? = some u → w.cell? ((⟨gb, 0, none⟩ : Addr).add j) = some u := fun j u hu => by
    have : (⟨gb, 0, none⟩ : Addr).add j = ⟨gb, j, none⟩ := by rw [Addr.add_mid, Nat.zero_add]
    rw [this, hnew.cell j]
    simpa using hu
  rcases h.2 with ⟨rfl, rfl, rfl⟩ | ⟨g, o, cur, rfl, hr, h2, h3, h4, h5⟩
  · obtain rfl : xs = [] := List.eq_nil_of_length_eq_zero (by simpa using h.1)
    obtain ⟨A', c'', w', hrun, k1, k2, k3⟩ := append_v (P := P) (ty := ty) (base := w.heap.size) ht hinfo hzs hsz (OwnV.nil w w.heap.size e size) hnew hnl h1 hlen hn (Nat.le_refl _)
    refine ⟨A', c'', w', hrun, OwnQ.of_row k1, k2, ?_⟩
    obtain ⟨g, rfl, hg1, hg2⟩ := k1.form (by omega)
    rcases k3 with k3 | k3
    · cases k3
    · injection k3 with k3
      exact ⟨w.heap.size, by show some g = _; rw [← k3], .inr (Nat.le_refl _)⟩
  · obtain ⟨i, hi, hz⟩ := Option.map_eq_some_iff.1 hinfo
    simp only [Prod.mk.injEq] at hz
    obtain ⟨hz0, hz1, hz2⟩ := hz
    by_cases hroom : n + 1 ≤ c
    · have hfit : o + n * size + size ≤ cur.size := by
        have := Nat.mul_le_mul_right size hroom
        rw [Nat.add_mul, Nat.one_mul] at this
        omega
      have hrun := run_append_room_cells (P := P) w t ty e i ht hi g o n c ⟨gb, 0, none⟩ 1 1 news (by rw [hz1]; omega) hnews h1 hroom
        (fun j hj => by rw [hr.cell, hz1]; simp; omega) (fun j hj => hr.frozen _)
      rw [hz1] at hrun
      refine ⟨_, _, _, hrun, ⟨by simp [h.1, hnl, Nat.add_mul], .inr ⟨g, o, ((cur.toList.take (o + n * size)) ++ news ++ (cur.toList.drop (o + n * size + size))).toArray, rfl, ?_, hroom, h3, ?_, ?_⟩⟩, ?_, ⟨g, rfl, .inl rfl⟩⟩
      · have hr' : Row w g e (cur.toList.take (o + n * size) ++ (cur.toList.drop (o + n * size)).take size ++ cur.toList.drop (o + n * size + size)).toArray := by
          have e2 : (cur.toList.drop (o + n * size)).take size ++ cur.toList.drop (o + n * size + size) = cur.toList.drop (o + n * size) := by
            rw [← List.drop_drop (l := cur.toList) (i := size) (j := o + n * size), List.take_append_drop]
          rw [List.append_assoc, e2, List.take_append_drop]
          exact hr
        have hs := Row.setCells (g := g) (t := e) news w _ _ _ hr' (by simp; omega)
        have hl : (cur.toList.take (o + n * size)).length = o + n * size := by simp; omega
        rw [hl] at hs
        exact hs
      · simp
        have := Nat.mul_le_mul_right size hroom
        omega
      · simp only [List.append_assoc]
        rw [List.drop_append_of_le_length (by simp; omega), List.drop_take, Nat.add_sub_cancel_left, h5, ← List.append_assoc]
        have hl : (n + 1) * size = (xs ++ news).length := by simp [h.1, hnl, Nat.add_mul]
        rw [hl, List.take_left]
      · have u := Upd.setCells g news w (o + n * size)
        exact ⟨u.os, u.tape, u.output, Nat.le_of_eq u.size.symm, fun x hx hk => u.block x fun e => hk (by rw [e]; rfl)⟩
    · obtain ⟨v', w', hrun, k1, k2⟩ := run_append_arg_grows (P := P) w t ty e i zv size bytes ht hi hz0 hz1 hz2 hzs hsz ⟨g, o, none⟩ n c xs h.1 (fun j u hu => by
        rw [Addr.add_mid, hr.cell]
        rw [← h5, List.getElem?_take] at hu
        split at hu
        · simpa [List.getElem?_drop] using hu
        · cases hu) ⟨gb, 0, none⟩ 1 1 news (by omega) hnews (by omega) (by simp only [maxLen]; omega) hlen
      rcases k1.2 with ⟨rfl, hn0⟩ | ⟨g2, cap, cur2, rfl, hb, rest⟩
      · omega
      · refine ⟨_, _, _, hrun, OwnQ.of_row k1, ⟨k2.os, k2.tape, k2.output, k2.size, fun x hx _ => k2.block x hx (by simp)⟩, ⟨g2, rfl, .inr hb⟩⟩
theorem step_append_q {s x : Operand} {t e : TypeId} {zv : Value} {size bytes n c gb : Nat} {A : Option Addr} {xs news : List Value} (ht : P.underlying t = some (.slice e)) (hinfo : (P.info? e).map (fun i => (i.zero, i.size, i.bytes)) = some (some zv, size, bytes))
    (hzs : zv.cells.size = size) (hsz : 0 < size) (h : OwnQ w e size A n c xs) (hnew : Row w gb e news.toArray) (hnl : news.length = size) (h1 : ∀ u ∈ news, u.oneCell' = true)
    (hlen : (n + 1) * bytes ≤ 140737488355328) (hn : n + 1 ≤ 140737488355328) (hs : a.eval s = .slice A n c) (hx : a.eval x = .slice (some ⟨gb, 0, none⟩) 1 1)
    (hK : ∀ A' c'' w' b, OwnQ w' e size A' (n + 1) c'' (xs ++ news) → w.grownBy w' (blk A) → blk A' = some b → (blk A = some b ∨ w.heap.size ≤ b) → K (a.put dst (.slice A' (n + 1) c'')) w') :
    Oper.wp P { dst := dst, op := .call { callee := .builtin .append, args := #[s, x], argTypes := #[t, t] }, type := typ, pos := pos, after := after, guard := none } a w K Q := by
  obtain ⟨A', c'', w', hr, h2, h3, b, h4, h5⟩ := append_q (P := P) (ty := typ) ht hinfo hzs hsz h hnew hnl h1 hlen hn
  unfold Oper.wp execOp
  simp only [resolve, invoke, builtin, Sem.run_bind, Sem.run_pure, Result.andThen_ok, List.map_toArray, List.map_cons, List.map_nil, hs, hx, hr]
  exact hK _ _ _ b h2 h3 h4 h5
end
def upd {α : Type} (f : Nat → α) (i : Nat) (x : α) : Nat → α := fun k => if k = i then x else f k
theorem upd_self {α : Type} (f : Nat → α) (i : Nat) (x : α) : upd f i x i = x := if_pos rfl
theorem upd_other {α : Type} {f : Nat → α} {i k : Nat} {x : α} (h : k ≠ i) : upd f i x k = f k := if_neg h
/-- A queue of the call's own, of colour k. -/
structure OwnK (col : Nat → Nat) (k : Nat) (w : World) (e : TypeId) (size : Nat) (A : Option Addr) (n c : Nat) (xs : List Value) : Prop where
  part : Part col k w (fun w => OwnQ w e size A n c xs)
  blk : ∀ b, blk A = some b → col b = k
/-- These slices read as the messages. -/
def MsgK (col : Nat → Nat) (w : World) (vs : List Value) (q : List (List UInt8)) : Prop := vs.length = q.length ∧ ∀ i (h : i < q.length), ∃ A c, vs[i]? = some (.slice A (q[i]).length c) ∧ Part col 0 w (fun w => IsB w A (q[i]).length q[i])
section
variable {base g k b j : Nat} {col : Nat → Nat} {w wA w2 w3 w' : World} {s : Nat}
theorem OwnK.below {e : TypeId} {size n c : Nat} {A : Option Addr} {xs : List Value} (h : OwnK col k w e size A n c xs) (hb : Below w.heap.size w w') : OwnK col k w' e size A n c xs := ⟨h.part.below hb, h.blk⟩
theorem MsgK.below {vs : List Value} {q : List (List UInt8)} (h : MsgK col w vs q) (hb : Below w.heap.size w w') : MsgK col w' vs q := ⟨h.1, fun i hi => by
  obtain ⟨A, c, e, hp⟩ := h.2 i hi
  exact ⟨A, c, e, hp.below hb⟩⟩
theorem OwnK.upd {e : TypeId} {size n c : Nat} {A : Option Addr} {xs : List Value} (h : OwnK col k w e size A n c xs) (u : Upd w w' g) (hg : col g = 1) (hk : 1 ≠ k) : OwnK col k w' e size A n c xs := ⟨h.part.only (Only.upd u hg) hk, h.blk⟩
theorem MsgK.only {vs : List Value} {q : List (List UInt8)} (h : MsgK col w vs q) (u : Only col k w w') (hk : k ≠ 0) : MsgK col w' vs q := ⟨h.1, fun i hi => by
  obtain ⟨A, c, e, hp⟩ := h.2 i hi
  exact ⟨A, c, e, hp.only u hk⟩⟩
theorem MsgK.paint {vs : List Value} {q : List (List UInt8)} (h : MsgK col w vs q) (hb : w.heap.size ≤ b ∨ col b = k) (hk : k ≠ 0) : MsgK (paint col b k) w vs q := ⟨h.1, fun i hi => by
  obtain ⟨A, c, e, hp⟩ := h.2 i hi
  exact ⟨A, c, e, hp.paint hb hk⟩⟩
theorem MsgK.snoc {vs : List Value} {q : List (List UInt8)} {m : List UInt8} {A : Option Addr} {c : Nat} (h : MsgK col w vs q) (hm : Part col 0 w (fun w => IsB w A m.length m)) : MsgK col w (vs ++ [.slice A m.length c]) (q ++ [m]) := by
  refine ⟨by simp [h.1], fun i hi => ?_⟩
  rcases Nat.lt_or_ge i q.length with h1 | h1
  · obtain ⟨A', c', e, ho'⟩ := h.2 i h1
    refine ⟨A', c', ?_, ?_⟩
    · rw [List.getElem?_append_left (by rw [h.1]; exact h1), e, List.getElem_append_left h1]
    · rw [List.getElem_append_left h1]; exact ho'
  · have hi' : i = q.length := by simp at hi; omega
    subst hi'
    refine ⟨A, c, ?_, ?_⟩
    · rw [List.getElem?_append_right (by rw [h.1]; exact Nat.le_refl _), h.1]; simp
    · simpa using hm
/-- A queue of colour k grows, in its own block or in a new one, b; then the wire's own row changes. -/
structure Grow (g k b : Nat) (col : Nat → Nat) (wA w2 w3 : World) (row : Option Nat) : Prop where
  lt : g < wA.heap.size
  cg : col g = 1
  k1 : 1 ≠ k
  k0 : k ≠ 0
  gr : wA.grownBy w2 row
  rw : ∀ x, row = some x → col x = k
  bb : row = some b ∨ wA.heap.size ≤ b
  bl : b < w2.heap.size
  u : Upd w2 w3 g
theorem Grow.bk {row : Option Nat} (h : Grow g k b col wA w2 w3 row) : wA.heap.size ≤ b ∨ col b = k := by
  rcases h.bb with h1 | h1
  · exact .inr (h.rw b h1)
  · exact .inl h1
theorem Grow.gb {row : Option Nat} (h : Grow g k b col wA w2 w3 row) : g ≠ b := by
  intro e
  subst e
  rcases h.bk with h1 | h1
  · have := h.lt; omega
  · exact h.k1 (h.cg.symm.trans h1)
theorem Grow.cg' {row : Option Nat} (h : Grow g k b col wA w2 w3 row) : paint col b k g = 1 := by rw [paint_other h.gb]; exact h.cg
theorem Grow.o1 {row : Option Nat} (h : Grow g k b col wA w2 w3 row) : Only (paint col b k) k wA w2 := (Only.grown h.gr h.rw).paint h.bk
theorem Grow.o2 {row : Option Nat} (h : Grow g k b col wA w2 w3 row) : Only (paint col b k) 1 w2 w3 := Only.upd h.u h.cg'
theorem Grow.part {row : Option Nat} {P : World → Prop} (h : Grow g k b col wA w2 w3 row) (hp : Part col j wA P) (hj : k ≠ j) (hj1 : 1 ≠ j) : Part (paint col b k) j w3 P := ((hp.paint h.bk hj).only h.o1 hj).only h.o2 hj1
theorem Grow.own {row : Option Nat} {e : TypeId} {size n c : Nat} {A : Option Addr} {xs : List Value} (h : Grow g k b col wA w2 w3 row) (hp : OwnK col j wA e size A n c xs) (hj : k ≠ j) (hj1 : 1 ≠ j) : OwnK (paint col b k) j w3 e size A n c xs := ⟨h.part hp.part hj hj1, fun x hx => by
  have hc := hp.blk x hx
  rw [paint_other]
  · exact hc
  · intro e
    subst e
    rcases h.bk with h1 | h1
    · have := hp.part.now.lt x hx; omega
    · exact hj (h1.symm.trans hc)⟩
theorem Grow.new {row : Option Nat} {e : TypeId} {size n c : Nat} {A : Option Addr} {xs : List Value} (h : Grow g k b col wA w2 w3 row) (hq : OwnQ w2 e size A n c xs) (hb : blk A = some b) : OwnK (paint col b k) k w3 e size A n c xs := by
  have hc : ∀ x, blk A = some x → paint col b k x = k := fun x hx => by
    rw [hb] at hx
    injection hx with hx
    rw [← hx, paint_self]
  exact ⟨(Part.own hq hc).only h.o2 h.k1, hc⟩
theorem Grow.msg {row : Option Nat} {vs : List Value} {q : List (List UInt8)} (h : Grow g k b col wA w2 w3 row) (hm : MsgK col wA vs q) : MsgK (paint col b k) w3 vs q := ((hm.paint h.bk h.k0).only h.o1 h.k0).only h.o2 (by omega)
theorem Grow.white {row : Option Nat} (h : Grow g k b col wA w2 w3 row) : White col wA w3 ∧ ∀ x, x < wA.heap.size → col x = 0 → paint col b k x = 0 := by
  have hc : ∀ x, x < wA.heap.size → col x = 0 → paint col b k x = 0 := fun x hx hc => by
    rw [paint_other]
    · exact hc
    · intro e
      subst e
      rcases h.bk with h1 | h1
      · omega
      · exact h.k0 (h1.symm.trans hc)
  exact ⟨((h.o1.white h.k0).trans (h.o2.white (by omega))).of hc, hc⟩
end
/-- A queue that is a cell of the wire grows, in a region that draws its order: number ib makes the slice of the one element, ia appends, the last one stores. -/
def QS (w0 : World) (g i : Nat) (e : TypeId) (sz : Nat) (A : Option Addr) (n : Nat) (xs : List Value) (L : Array Value) (ib ia : Nat) (c : Nat) (us : Nat → Value) (w' : World) : Prop :=
  (c = 0 → w' = w0) ∧ (c = 1 → us ib = .slice (some ⟨w0.heap.size, 0, none⟩) 1 1 ∧ w' = w0.alloc (.cells L e)) ∧
  (2 ≤ c → ∃ A' c' w2 b, us ia = .slice A' (n + 1) c' ∧ OwnQ w2 e sz A' (n + 1) c' (xs ++ L.toList) ∧ (w0.alloc (.cells L e)).grownBy w2 (blk A) ∧ blk A' = some b ∧ (blk A = some b ∨ (w0.alloc (.cells L e)).heap.size ≤ b) ∧ (c = 2 → w' = w2) ∧ (3 ≤ c → w' = w2.setCell ⟨g, i, none⟩ (.slice A' (n + 1) c')))
section
variable {w0 : World} {g i : Nat} {e : TypeId} {sz : Nat} {A : Option Addr} {n : Nat} {xs : List Value} {L : Array Value} {ib ia is : Nat} {us : Nat → Value} {w' : World}
theorem QS.loc {ops : Array Oper} : ∀ c us us' w, (∀ k, mayAt ops [ib, ia, is] c k = false ∨ k ∈ [ib, ia, is].take c → us k = us' k) → QS w0 g i e sz A n xs L ib ia c us w → QS w0 g i e sz A n xs L ib ia c us' w := by
  intro c us us' w hk ⟨a, b, d⟩
  refine ⟨a, fun hc => ?_, fun hc => ?_⟩
  · rw [← hk ib (.inr (by subst hc; simp))]
    exact b hc
  · rw [← hk ia (.inr (by obtain ⟨k, rfl⟩ : ∃ k, c = k + 2 := ⟨c - 2, by omega⟩; simp))]
    exact d hc
theorem QS.zero : QS w0 g i e sz A n xs L ib ia 0 us w0 := ⟨fun _ => rfl, fun h => by omega, fun h => by omega⟩
theorem QS.one : QS w0 g i e sz A n xs L ib ia 1 (fun k => if k = ib then .slice (some ⟨w0.heap.size, 0, none⟩) 1 1 else us k) (w0.alloc (.cells L e)) :=
  ⟨fun h => by omega, fun _ => ⟨if_pos rfl, rfl⟩, fun h => by omega⟩
theorem QS.early {c : Nat} (h : QS w0 g i e sz A n xs L ib ia c us w') (hc : c < 2) : Below w0.heap.size w0 w' := by
  rcases (show c = 0 ∨ c = 1 by omega) with h1 | h1
  · rw [h.1 h1]; exact Below.refl _ _
  · rw [(h.2.1 h1).2]; exact (Below.refl _ _).alloc (Nat.le_refl _) _
theorem QS.two {A' : Option Addr} {c' b : Nat} {w2 : World} (h2 : OwnQ w2 e sz A' (n + 1) c' (xs ++ L.toList)) (h3 : (w0.alloc (.cells L e)).grownBy w2 (blk A)) (h4 : blk A' = some b) (h5 : blk A = some b ∨ (w0.alloc (.cells L e)).heap.size ≤ b) :
    QS w0 g i e sz A n xs L ib ia 2 (fun k => if k = ia then .slice A' (n + 1) c' else us k) w2 := ⟨fun h => by omega, fun h => by omega, fun _ => ⟨A', c', w2, b, if_pos rfl, h2, h3, h4, h5, fun _ => rfl, fun h => by omega⟩⟩
theorem QS.three {A' : Option Addr} {c' : Nat} {w2 : World} (h : QS w0 g i e sz A n xs L ib ia 2 us w2) (hu : us ia = .slice A' (n + 1) c') : QS w0 g i e sz A n xs L ib ia 3 us (w2.setCell ⟨g, i, none⟩ (.slice A' (n + 1) c')) := by
  obtain ⟨A2, c2, w3, b, hu2, h2, h3, h4, h5, h6, -⟩ := h.2.2 (by omega)
  have e := hu.symm.trans hu2
  injection e with e1 e2 e3
  subst e1 e3
  have e4 := h6 rfl
  subst e4
  exact ⟨fun h => by omega, fun h => by omega, fun _ => ⟨A', c', w2, b, hu, h2, h3, h4, h5, fun h => by omega, fun _ => rfl⟩⟩
end
theorem White.undrew {col : Nat → Nat} {w w' : World} (h : White col w.drew w') : White col w w' := ⟨h.os, h.tape, h.output, h.size, h.block⟩
section
variable {P : Program} {K : Act → World → Prop} {Q : Exit → Act → World → Prop} {a : Act} {w : World} {dst : Option Tmp} {typ : TypeId} {pos : String} {after : Array Edge}
/-- A slice literal of one struct. -/
theorem step_build_1 {t e : TypeId} {x : Operand} {L : Array Value} {zv : Value} {size bytes : Nat} (hu : P.underlying t = some (.slice e)) (hinfo : (P.info? e).map (fun i => (i.zero, i.size, i.bytes)) = some (some zv, size, bytes)) (hL : L.size = size) (hsz : 0 < size) (hsm : size ≤ 1000)
    (hx : a.eval x = .agg L) (h : K (a.put dst (.slice (some ⟨w.heap.size, 0, none⟩) 1 1)) (w.alloc (.cells L e))) :
    Oper.wp P { dst := dst, op := .buildSlice t 1 #[(0, x)], type := typ, pos := pos, after := after, guard := none } a w K Q := by
  obtain ⟨i, hi, hz⟩ := Option.map_eq_some_iff.1 hinfo
  simp only [Prod.mk.injEq] at hz
  obtain ⟨hz0, hz1, hz2⟩ := hz
  refine wp_buildSlice (o := { dst := dst, op := .buildSlice t 1 #[(0, x)], type := typ, pos := pos, after := after, guard := none }) t e 1 #[(0, x)] rfl L i zv hu hi hz0 (by omega) (by omega) ?_ h
  have e1 : (#[(0, x)].map fun (i, x) => (i, a.eval x)).toList = (([Value.agg L] : List Value).zipIdx 0).map fun x => (x.2, x.1) := by simp [hx]
  rw [e1, hz1, Great.fill_whole hsz [Value.agg L] _ (fun v hv => by obtain rfl := List.mem_singleton.1 hv; exact hL) (by simp)]
  simp [Value.cells]
end
end Go.Proofs.Ythjkhambmgepdaa
