/- Texts Cz Va Vm Plain R1 Vk, without what this claim does not use. -/
import Derived.ArgAppend
import Derived.Great.BuildSlice
import Derived.WalkKit
import Derived.Test.YthjkhambmgepdaaRows
import Derived.WalkSpells
import Derived.WalkLawsBesides
import Derived.Deep.QuietTactic
import Derived.BigQuiet
import Derived.Lib.Hide
import Derived.Handy
import Derived.Test.YthjkhambmgepdaaQaj
namespace Go.Proofs.Ythjkhambmgepdaa
section
open Go.RowKit
set_option linter.unusedVariables false
structure Only (col : Nat → Nat) (k : Nat) (w w' : World) : Prop where
  os : w'.os = w.os
  tape : w'.tape = w.tape
  output : w'.output = w.output
  size : w.heap.size ≤ w'.heap.size
  block : ∀ x, x < w.heap.size → col x ≠ k → w'.heap[x]? = w.heap[x]?
def Out (k : Nat) : Prop := k = 0 ∨ 20 ≤ k
def KeepC (col col' : Nat → Nat) (n : Nat) : Prop := ∀ x, x < n → Out (col x) → col' x = col x
structure White (col : Nat → Nat) (w w' : World) : Prop where
  os : w'.os = w.os
  tape : w'.tape = w.tape
  output : w'.output = w.output
  size : w.heap.size ≤ w'.heap.size
  block : ∀ x, x < w.heap.size → Out (col x) → w'.heap[x]? = w.heap[x]?
def Part (col : Nat → Nat) (k : Nat) (w : World) (P : World → Prop) : Prop := ∀ w', w.heap.size ≤ w'.heap.size → (∀ x, x < w.heap.size → col x = k → w'.heap[x]? = w.heap[x]?) → P w'
def paint (col : Nat → Nat) (b k : Nat) : Nat → Nat := fun x => if x = b then k else col x
theorem paint_self (col : Nat → Nat) (b k : Nat) : paint col b k b = k := if_pos rfl
theorem paint_other {col : Nat → Nat} {b k x : Nat} (h : x ≠ b) : paint col b k x = col x := if_neg h
section
variable {col : Nat → Nat} {k j b : Nat} {w w' a c : World} {P Q : World → Prop}
theorem Part.now (h : Part col k w P) : P w := h w (Nat.le_refl _) fun _ _ _ => rfl
theorem Part.only (h : Part col k w P) (o : Only col j w w') (hj : j ≠ k) : Part col k w' P := fun w2 hs hb => h w2 (Nat.le_trans o.size hs) fun x hx hc => (hb x (Nat.lt_of_lt_of_le hx o.size) hc).trans (o.block x hx (fun e => hj (e.symm.trans hc)))
theorem Part.below (h : Part col k w P) (hb : Below w.heap.size w w') : Part col k w' P := fun w2 hs hk => h w2 (Nat.le_trans hb.size hs) fun x hx hc => (hk x (Nat.lt_of_lt_of_le hx hb.size) hc).trans (hb.block x hx)
theorem Part.paint (h : Part col k w P) (hb : w.heap.size ≤ b ∨ col b = j) (hj : j ≠ k) : Part (paint col b j) k w P := fun w2 hs hk => h w2 hs fun x hx hc => hk x hx (by
  rw [paint_other]
  · exact hc
  · intro e
    subst e
    rcases hb with hb | hb
    · omega
    · exact hj (hb.symm.trans hc))
theorem Part.mono (h : Part col k w P) (hPQ : ∀ w, P w → Q w) : Part col k w Q := fun w2 hs hk => hPQ _ (h w2 hs hk)
theorem Only.below (hb : Below w.heap.size w w') : Only col k w w' := ⟨hb.os, hb.tape, hb.output, hb.size, fun x hx _ => hb.block x hx⟩
theorem Only.upd {g : Nat} (u : Upd w w' g) (hg : col g = k) : Only col k w w' := ⟨u.os, u.tape, u.output, Nat.le_of_eq u.size.symm, fun x hx hc => u.block x fun e => hc (by rw [e]; exact hg)⟩
theorem Only.grown {row : Option Nat} (h : w.grownBy w' row) (hr : ∀ b, row = some b → col b = k) : Only col k w w' := ⟨h.os, h.tape, h.output, h.size, fun x hx hc => h.block x hx fun e => hc (hr x e.symm)⟩
theorem Only.paint (h : Only col k w w') (hb : w.heap.size ≤ b ∨ col b = k) : Only (paint col b k) k w w' := ⟨h.os, h.tape, h.output, h.size, fun x hx hc => h.block x hx (by
  by_cases e : x = b
  · subst e
    rw [paint_self] at hc
    exact absurd rfl hc
  · rwa [paint_other e] at hc)⟩
theorem Only.trans (h : Only col k a w) (h2 : Only col k w c) : Only col k a c := ⟨h2.os.trans h.os, h2.tape.trans h.tape, h2.output.trans h.output, Nat.le_trans h.size h2.size, fun x hx hc => (h2.block x (Nat.lt_of_lt_of_le hx h.size) hc).trans (h.block x hx hc)⟩
theorem Only.white (h : Only col k w w') (hk : k ≠ 0 ∧ k < 20) : White col w w' := ⟨h.os, h.tape, h.output, h.size, fun x hx hc => h.block x hx (by unfold Out at hc; omega)⟩
theorem White.refl (col : Nat → Nat) (w : World) : White col w w := ⟨rfl, rfl, rfl, Nat.le_refl _, fun _ _ _ => rfl⟩
theorem White.below (hb : Below w.heap.size w w') : White col w w' := ⟨hb.os, hb.tape, hb.output, hb.size, fun x hx _ => hb.block x hx⟩
theorem White.trans (h : White col a w) (h2 : White col w c) : White col a c := ⟨h2.os.trans h.os, h2.tape.trans h.tape, h2.output.trans h.output, Nat.le_trans h.size h2.size, fun x hx hc => (h2.block x (Nat.lt_of_lt_of_le hx h.size) hc).trans (h.block x hx hc)⟩
theorem White.of {col' : Nat → Nat} (h : White col' w w') (hc : ∀ x, x < w.heap.size → Out (col x) → col' x = col x) : White col w w' := ⟨h.os, h.tape, h.output, h.size, fun x hx h0 => h.block x hx (by rw [hc x hx h0]; exact h0)⟩
theorem White.below_base {base : Nat} (h : White col w w') (hb : ∀ x, x < base → col x = 0) (hs : base ≤ w.heap.size) {W : World} (hB : Below base W w) : Below base W w' :=
  ⟨h.os.trans hB.os, h.tape.trans hB.tape, h.output.trans hB.output, Nat.le_trans hB.size h.size, fun x hx => (h.block x (Nat.lt_of_lt_of_le hx hs) (.inl (hb x hx))).trans (hB.block x hx)⟩
theorem Part.row {g : Nat} {t : TypeId} {cs : Array Value} (h : Row w g t cs) (hg : col g = k) : Part col k w (fun w => Row w g t cs) := fun w2 hs hb => (hb g h.lt hg).trans h
theorem IsB.of_same {A : Option Addr} {n : Nat} {bs : List UInt8} (h : IsB w A n bs) (hb : ∀ b o, A = some ⟨b, o, none⟩ → 0 < n → w'.heap[b]? = w.heap[b]?) : IsB w' A n bs := by
  refine ⟨h.1, fun hn => ?_⟩
  obtain ⟨b, o, e, hc⟩ := h.2 hn
  exact ⟨b, o, e, fun j hj => (World.cell?_of_block (w := w) (a := ⟨b, o + j, none⟩) (hb b o e hn)).trans (hc j hj)⟩
end
def blk (A : Option Addr) : Option Nat := A.map (·.block)
def OwnQ (w : World) (e : TypeId) (size : Nat) (A : Option Addr) (n c : Nat) (xs : List Value) : Prop :=
  xs.length = n * size ∧ ((A = none ∧ n = 0 ∧ c = 0) ∨ ∃ g o cur, A = some ⟨g, o, none⟩ ∧ Row w g e cur ∧ n ≤ c ∧ c ≤ maxLen ∧ o + c * size ≤ cur.size ∧ (cur.toList.drop o).take (n * size) = xs)
theorem OwnQ.nil (w : World) (e : TypeId) (size : Nat) : OwnQ w e size none 0 0 [] := ⟨by simp, .inl ⟨rfl, rfl, rfl⟩⟩
theorem OwnQ.cap {w : World} {e : TypeId} {size : Nat} {A : Option Addr} {n c : Nat} {xs : List Value} (h : OwnQ w e size A n c xs) : n ≤ c := by
  rcases h.2 with ⟨_, h1, h2⟩ | ⟨g, o, cur, _, _, h1, _⟩
  · omega
  · exact h1
theorem OwnQ.lt {w : World} {e : TypeId} {size : Nat} {A : Option Addr} {n c : Nat} {xs : List Value} (h : OwnQ w e size A n c xs) : ∀ b, blk A = some b → b < w.heap.size := by
  intro b hb
  rcases h.2 with ⟨h1, _⟩ | ⟨g, o, cur, h1, hr, _⟩
  · rw [h1] at hb; cases hb
  · rw [h1] at hb
    injection hb with hb
    subst hb
    exact hr.lt
theorem OwnQ.of_same {w w' : World} {e : TypeId} {size : Nat} {A : Option Addr} {n c : Nat} {xs : List Value} (h : OwnQ w e size A n c xs) (hb : ∀ b, blk A = some b → w'.heap[b]? = w.heap[b]?) : OwnQ w' e size A n c xs := by
  refine ⟨h.1, ?_⟩
  rcases h.2 with h1 | ⟨g, o, cur, h1, hr, h2⟩
  · exact .inl h1
  · exact .inr ⟨g, o, cur, h1, (hb g (by rw [h1]; rfl)).trans hr, h2⟩
theorem Part.own {col : Nat → Nat} {k : Nat} {w : World} {e : TypeId} {size : Nat} {A : Option Addr} {n c : Nat} {xs : List Value} (h : OwnQ w e size A n c xs) (hc : ∀ b, blk A = some b → col b = k) : Part col k w (fun w => OwnQ w e size A n c xs) :=
  fun w2 hs hb => h.of_same fun b h1 => hb b (h.lt b h1) (hc b h1)
theorem OwnQ.of_row {w : World} {base size : Nat} {e : TypeId} {A : Option Addr} {n c : Nat} {xs : List Value} (h : OwnV w base e size A n c xs) : OwnQ w e size A n c xs := by
  refine ⟨h.1, ?_⟩
  rcases h.2 with ⟨h1, h2⟩ | ⟨g, cap, cur, h1, _, hg, h3, h4, h5, h6⟩
  · injection h1 with h1 h3 h4
    exact .inl ⟨h1, h2, h4⟩
  · injection h1 with h1 h2 h7
    subst h1 h7
    exact .inr ⟨g, 0, cur, rfl, hg, h3, h4, by omega, by simpa using h6⟩
theorem OwnQ.cells {w : World} {e : TypeId} {size : Nat} {A : Option Addr} {n c : Nat} {xs : List Value} (h : OwnQ w e size A n c xs) (hn : 0 < n) : ∃ g o cur, A = some ⟨g, o, none⟩ ∧ Row w g e cur ∧ ∀ j u, xs[j]? = some u → w.cell? ⟨g, o + j, none⟩ = some u := by
  rcases h.2 with ⟨_, h1, _⟩ | ⟨g, o, cur, h1, hr, _, _, _, h2⟩
  · omega
  · refine ⟨g, o, cur, h1, hr, fun j u hu => ?_⟩
    rw [hr.cell]
    rw [← h2, List.getElem?_take] at hu
    split at hu
    · simpa [List.getElem?_drop] using hu
    · cases hu
theorem OwnQ.frozen {w : World} {e : TypeId} {size : Nat} {g o n c : Nat} {xs : List Value} (h : OwnQ w e size (some ⟨g, o, none⟩) n c xs) (i : Nat) : w.frozen? ⟨g, i, none⟩ = false := by
  rcases h.2 with ⟨h1, _⟩ | ⟨g', o', cur, h1, hr, _⟩
  · cases h1
  · injection h1 with h1
    injection h1 with h1 h2 h3
    subst h1
    exact hr.frozen i
theorem OwnQ.tail {w : World} {e : TypeId} {size g o n c : Nat} {xs : List Value} (h : OwnQ w e size (some ⟨g, o, none⟩) n c xs) (hn : 0 < n) : OwnQ w e size (some ⟨g, o + size, none⟩) (n - 1) (c - 1) (xs.drop size) := by
  rcases h.2 with ⟨h1, _⟩ | ⟨g', o', cur, h1, hr, h2, h3, h4, h5⟩
  · cases h1
  · injection h1 with h1
    injection h1 with h1 h6 h7
    subst h1 h6
    obtain ⟨m, rfl⟩ : ∃ m, n = m + 1 := ⟨n - 1, by omega⟩
    obtain ⟨d, rfl⟩ : ∃ d, c = d + 1 := ⟨c - 1, by omega⟩
    have hl := h.1
    rw [Nat.add_mul, Nat.one_mul] at hl h4
    refine ⟨by simp [hl], .inr ⟨g, o + size, cur, rfl, hr, by omega, by omega, by simp; omega, ?_⟩⟩
    rw [← h5, List.drop_take, List.drop_drop]
    congr 1
    simp [Nat.add_mul]
theorem OwnQ.tail0 {w : World} {e : TypeId} {size g o : Nat} {xs : List Value} (h : OwnQ w e size (some ⟨g, o, none⟩) 1 1 xs) : OwnQ w e size (some ⟨g, o, none⟩) 0 0 (xs.drop size) := by
  rcases h.2 with ⟨h1, _⟩ | ⟨g', o', cur, h1, hr, h2, h3, h4, h5⟩
  · cases h1
  · injection h1 with h1
    injection h1 with h1 h6 h7
    subst h1 h6
    have hl := h.1
    refine ⟨by rw [List.length_drop]; omega, .inr ⟨g, o, cur, rfl, hr, by omega, by omega, by omega, ?_⟩⟩
    rw [List.drop_of_length_le (l := xs) (by omega)]
    simp
section
variable {P : Program} {K : Act → World → Prop} {Q : Exit → Act → World → Prop} {a : Act} {w : World} {dst : Option Tmp} {typ : TypeId} {pos : String} {after : Array Edge}
theorem append_q {t ty e : TypeId} {zv : Value} {size bytes n c gb : Nat} {A : Option Addr} {xs news : List Value} (ht : P.underlying t = some (.slice e)) (hinfo : (P.info? e).map (fun i => (i.zero, i.size, i.bytes)) = some (some zv, size, bytes))
    (hzs : zv.cells.size = size) (hsz : 0 < size) (h : OwnQ w e size A n c xs) (hnew : Row w gb e news.toArray) (hnl : news.length = size) (h1 : ∀ u ∈ news, u.oneCell' = true)
    (hlen : (n + 1) * bytes ≤ 140737488355328) (hn : n + 1 ≤ 140737488355328) :
    ∃ A' c'' w', (Builtin.append_ #[t, t] ty #[.slice A n c, .slice (some ⟨gb, 0, none⟩) 1 1]).run P w = .ok (.slice A' (n + 1) c'') w' ∧ OwnQ w' e size A' (n + 1) c'' (xs ++ news) ∧ w.grownBy w' (blk A) ∧ ∃ b, blk A' = some b ∧ (blk A = some b ∨ w.heap.size ≤ b) := by
  have hnews : ∀ j u, news[j]? = some u → w.cell? ((⟨gb, 0, none⟩ : Addr).add j) = some u := fun j u hu => by
    have : (⟨gb, 0, none⟩ : Addr).add j = ⟨gb, j, none⟩ := by rw [Addr.add_mid, Nat.zero_add]
    rw [this, hnew.cell j]
    simpa using hu
  rcases h.2 with ⟨rfl, rfl, rfl⟩ | ⟨g, o, cur, rfl, hr, h2, h3, h4, h5⟩
  · obtain rfl : xs = [] := List.eq_nil_of_length_eq_zero (by simpa using h.1)
    obtain ⟨A', c'', w', hrun, k1, k2, k3⟩ := append_v (P := P) (ty := ty) (base := w.heap.size) ht hinfo hzs hsz (OwnV.nil w w.heap.size e size) hnew hnl h1 hlen hn (Nat.le_refl _)
    refine ⟨A', c'', w', hrun, OwnQ.of_row k1, k2, ?_⟩
    obtain ⟨g, rfl, hg1, hg2⟩ := k1.form (by omega)
    rcases k3 with k3 | k3
    · cases k3
    · injection k3 with k3
      exact ⟨w.heap.size, by show some g = _; rw [← k3], .inr (Nat.le_refl _)⟩
  · obtain ⟨i, hi, hz⟩ := Option.map_eq_some_iff.1 hinfo
    simp only [Prod.mk.injEq] at hz
    obtain ⟨hz0, hz1, hz2⟩ := hz
    by_cases hroom : n + 1 ≤ c
    · have hfit : o + n * size + size ≤ cur.size := by
        have := Nat.mul_le_mul_right size hroom
        rw [Nat.add_mul, Nat.one_mul] at this
        omega
      have hrun := run_append_room_cells (P := P) w t ty e i ht hi g o n c ⟨gb, 0, none⟩ 1 1 news (by rw [hz1]; omega) hnews h1 hroom
        (fun j hj => by rw [hr.cell, hz1]; simp; omega) (fun j hj => hr.frozen _)
      rw [hz1] at hrun
      refine ⟨_, _, _, hrun, ⟨by simp [h.1, hnl, Nat.add_mul], .inr ⟨g, o, ((cur.toList.take (o + n * size)) ++ news ++ (cur.toList.drop (o + n * size + size))).toArray, rfl, ?_, hroom, h3, ?_, ?_⟩⟩, ?_, ⟨g, rfl, .inl rfl⟩⟩
      · have hr' : Row w g e (cur.toList.take (o + n * size) ++ (cur.toList.drop (o + n * size)).take size ++ cur.toList.drop (o + n * size + size)).toArray := by
          have e2 : (cur.toList.drop (o + n * size)).take size ++ cur.toList.drop (o + n * size + size) = cur.toList.drop (o + n * size) := by
            rw [← List.drop_drop (l := cur.toList) (i := size) (j := o + n * size), List.take_append_drop]
          rw [List.append_assoc, e2, List.take_append_drop]
          exact hr
        have hs := Row.setCells (g := g) (t := e) news w _ _ _ hr' (by simp; omega)
        have hl : (cur.toList.take (o + n * size)).length = o + n * size := by simp; omega
        rw [hl] at hs
        exact hs
      · simp
        have := Nat.mul_le_mul_right size hroom
        omega
      · simp only [List.append_assoc]
        rw [List.drop_append_of_le_length (by simp; omega), List.drop_take, Nat.add_sub_cancel_left, h5, ← List.append_assoc]
        have hl : (n + 1) * size = (xs ++ news).length := by simp [h.1, hnl, Nat.add_mul]
        rw [hl, List.take_left]
      · have u := Upd.setCells g news w (o + n * size)
        exact ⟨u.os, u.tape, u.output, Nat.le_of_eq u.size.symm, fun x hx hk => u.block x fun e => hk (by rw [e]; rfl)⟩
    · obtain ⟨v', w', hrun, k1, k2⟩ := run_append_arg_grows (P := P) w t ty e i zv size bytes ht hi hz0 hz1 hz2 hzs hsz ⟨g, o, none⟩ n c xs h.1 (fun j u hu => by
        rw [Addr.add_mid, hr.cell]
        rw [← h5, List.getElem?_take] at hu
        split at hu
        · simpa [List.getElem?_drop] using hu
        · cases hu) ⟨gb, 0, none⟩ 1 1 news (by omega) hnews (by omega) (by simp only [maxLen]; omega) hlen
      rcases k1.2 with ⟨rfl, hn0⟩ | ⟨g2, cap, cur2, rfl, hb, rest⟩
      · omega
      · refine ⟨_, _, _, hrun, OwnQ.of_row k1, ⟨k2.os, k2.tape, k2.output, k2.size, fun x hx _ => k2.block x hx (by simp)⟩, ⟨g2, rfl, .inr hb⟩⟩
theorem step_append_q {s x : Operand} {t e : TypeId} {zv : Value} {size bytes n c gb : Nat} {A : Option Addr} {xs news : List Value} (ht : P.underlying t = some (.slice e)) (hinfo : (P.info? e).map (fun i => (i.zero, i.size, i.bytes)) = some (some zv, size, bytes))
    (hzs : zv.cells.size = size) (hsz : 0 < size) (h : OwnQ w e size A n c xs) (hnew : Row w gb e news.toArray) (hnl : news.length = size) (h1 : ∀ u ∈ news, u.oneCell' = true)
    (hlen : (n + 1) * bytes ≤ 140737488355328) (hn : n + 1 ≤ 140737488355328) (hs : a.eval s = .slice A n c) (hx : a.eval x = .slice (some ⟨gb, 0, none⟩) 1 1)
    (hK : ∀ A' c'' w' b, OwnQ w' e size A' (n + 1) c'' (xs ++ news) → w.grownBy w' (blk A) → blk A' = some b → (blk A = some b ∨ w.heap.size ≤ b) → K (a.put dst (.slice A' (n + 1) c'')) w') :
    Oper.wp P { dst := dst, op := .call { callee := .builtin .append, args := #[s, x], argTypes := #[t, t] }, type := typ, pos := pos, after := after, guard := none } a w K Q := by
  obtain ⟨A', c'', w', hr, h2, h3, b, h4, h5⟩ := append_q (P := P) (ty := typ) ht hinfo hzs hsz h hnew hnl h1 hlen hn
  unfold Oper.wp execOp
  simp only [resolve, invoke, builtin, Sem.run_bind, Sem.run_pure, Result.andThen_ok, List.map_toArray, List.map_cons, List.map_nil, hs, hx, hr]
  exact hK _ _ _ b h2 h3 h4 h5
end
def upd {α : Type} (f : Nat → α) (i : Nat) (x : α) : Nat → α := fun k => if k = i then x else f k
theorem upd_self {α : Type} (f : Nat → α) (i : Nat) (x : α) : upd f i x i = x := if_pos rfl
theorem upd_other {α : Type} {f : Nat → α} {i k : Nat} {x : α} (h : k ≠ i) : upd f i x k = f k := if_neg h
structure OwnK (col : Nat → Nat) (k : Nat) (w : World) (e : TypeId) (size : Nat) (A : Option Addr) (n c : Nat) (xs : List Value) : Prop where
  part : Part col k w (fun w => OwnQ w e size A n c xs)
  blk : ∀ b, blk A = some b → col b = k
def MsgK (col : Nat → Nat) (w : World) (vs : List Value) (q : List (List UInt8)) : Prop := vs.length = q.length ∧ ∀ i (h : i < q.length), ∃ A c, vs[i]? = some (.slice A (q[i]).length c) ∧ Part col 0 w (fun w => IsB w A (q[i]).length q[i])
section
variable {base g k b j : Nat} {col : Nat → Nat} {w wA w2 w3 w' : World} {s : Nat}
theorem OwnK.below {e : TypeId} {size n c : Nat} {A : Option Addr} {xs : List Value} (h : OwnK col k w e size A n c xs) (hb : Below w.heap.size w w') : OwnK col k w' e size A n c xs := ⟨h.part.below hb, h.blk⟩
theorem MsgK.below {vs : List Value} {q : List (List UInt8)} (h : MsgK col w vs q) (hb : Below w.heap.size w w') : MsgK col w' vs q := ⟨h.1, fun i hi => by
  obtain ⟨A, c, e, hp⟩ := h.2 i hi
  exact ⟨A, c, e, hp.below hb⟩⟩
theorem OwnK.upd {e : TypeId} {size n c : Nat} {A : Option Addr} {xs : List Value} (h : OwnK col k w e size A n c xs) (u : Upd w w' g) (hg : col g = 1) (hk : 1 ≠ k) : OwnK col k w' e size A n c xs := ⟨h.part.only (Only.upd u hg) hk, h.blk⟩
theorem MsgK.only {vs : List Value} {q : List (List UInt8)} (h : MsgK col w vs q) (u : Only col k w w') (hk : k ≠ 0) : MsgK col w' vs q := ⟨h.1, fun i hi => by
  obtain ⟨A, c, e, hp⟩ := h.2 i hi
  exact ⟨A, c, e, hp.only u hk⟩⟩
theorem MsgK.paint {vs : List Value} {q : List (List UInt8)} (h : MsgK col w vs q) (hb : w.heap.size ≤ b ∨ col b = k) (hk : k ≠ 0) : MsgK (paint col b k) w vs q := ⟨h.1, fun i hi => by
  obtain ⟨A, c, e, hp⟩ := h.2 i hi
  exact ⟨A, c, e, hp.paint hb hk⟩⟩
theorem MsgK.snoc {vs : List Value} {q : List (List UInt8)} {m : List UInt8} {A : Option Addr} {c : Nat} (h : MsgK col w vs q) (hm : Part col 0 w (fun w => IsB w A m.length m)) : MsgK col w (vs ++ [.slice A m.length c]) (q ++ [m]) := by
  refine ⟨by simp [h.1], fun i hi => ?_⟩
  rcases Nat.lt_or_ge i q.length with h1 | h1
  · obtain ⟨A', c', e, ho'⟩ := h.2 i h1
    refine ⟨A', c', ?_, ?_⟩
    · rw [List.getElem?_append_left (by rw [h.1]; exact h1), e, List.getElem_append_left h1]
    · rw [List.getElem_append_left h1]; exact ho'
  · have hi' : i = q.length := by simp at hi; omega
    subst hi'
    refine ⟨A, c, ?_, ?_⟩
    · rw [List.getElem?_append_right (by rw [h.1]; exact Nat.le_refl _), h.1]; simp
    · simpa using hm
structure Grow (g k b : Nat) (col : Nat → Nat) (wA w2 w3 : World) (row : Option Nat) : Prop where
  lt : g < wA.heap.size
  cg : col g = 1
  k1 : 1 ≠ k
  k0 : k ≠ 0
  k9 : k < 20
  gr : wA.grownBy w2 row
  rw : ∀ x, row = some x → col x = k
  bb : row = some b ∨ wA.heap.size ≤ b
  bl : b < w2.heap.size
  u : Upd w2 w3 g
theorem Grow.bk {row : Option Nat} (h : Grow g k b col wA w2 w3 row) : wA.heap.size ≤ b ∨ col b = k := by
  rcases h.bb with h1 | h1
  · exact .inr (h.rw b h1)
  · exact .inl h1
theorem Grow.gb {row : Option Nat} (h : Grow g k b col wA w2 w3 row) : g ≠ b := by
  intro e
  subst e
  rcases h.bk with h1 | h1
  · have := h.lt; omega
  · exact h.k1 (h.cg.symm.trans h1)
theorem Grow.cg' {row : Option Nat} (h : Grow g k b col wA w2 w3 row) : paint col b k g = 1 := by rw [paint_other h.gb]; exact h.cg
theorem Grow.o1 {row : Option Nat} (h : Grow g k b col wA w2 w3 row) : Only (paint col b k) k wA w2 := (Only.grown h.gr h.rw).paint h.bk
theorem Grow.o2 {row : Option Nat} (h : Grow g k b col wA w2 w3 row) : Only (paint col b k) 1 w2 w3 := Only.upd h.u h.cg'
theorem Grow.part {row : Option Nat} {P : World → Prop} (h : Grow g k b col wA w2 w3 row) (hp : Part col j wA P) (hj : k ≠ j) (hj1 : 1 ≠ j) : Part (paint col b k) j w3 P := ((hp.paint h.bk hj).only h.o1 hj).only h.o2 hj1
theorem Grow.own {row : Option Nat} {e : TypeId} {size n c : Nat} {A : Option Addr} {xs : List Value} (h : Grow g k b col wA w2 w3 row) (hp : OwnK col j wA e size A n c xs) (hj : k ≠ j) (hj1 : 1 ≠ j) : OwnK (paint col b k) j w3 e size A n c xs := ⟨h.part hp.part hj hj1, fun x hx => by
  have hc := hp.blk x hx
  rw [paint_other]
  · exact hc
  · intro e
    subst e
    rcases h.bk with h1 | h1
    · have := hp.part.now.lt x hx; omega
    · exact hj (h1.symm.trans hc)⟩
theorem Grow.new {row : Option Nat} {e : TypeId} {size n c : Nat} {A : Option Addr} {xs : List Value} (h : Grow g k b col wA w2 w3 row) (hq : OwnQ w2 e size A n c xs) (hb : blk A = some b) : OwnK (paint col b k) k w3 e size A n c xs := by
  have hc : ∀ x, blk A = some x → paint col b k x = k := fun x hx => by
    rw [hb] at hx
    injection hx with hx
    rw [← hx, paint_self]
  exact ⟨(Part.own hq hc).only h.o2 h.k1, hc⟩
theorem Grow.msg {row : Option Nat} {vs : List Value} {q : List (List UInt8)} (h : Grow g k b col wA w2 w3 row) (hm : MsgK col wA vs q) : MsgK (paint col b k) w3 vs q := ((hm.paint h.bk h.k0).only h.o1 h.k0).only h.o2 (by omega)
theorem Grow.white {row : Option Nat} (h : Grow g k b col wA w2 w3 row) : White col wA w3 ∧ ∀ x, x < wA.heap.size → Out (col x) → paint col b k x = col x := by
  have hk0 := h.k0
  have hk9 := h.k9
  have hc : ∀ x, x < wA.heap.size → Out (col x) → paint col b k x = col x := fun x hx hc => by
    rw [paint_other]
    intro e
    subst e
    rcases h.bk with h1 | h1
    · omega
    · unfold Out at hc
      omega
  exact ⟨((h.o1.white ⟨h.k0, h.k9⟩).trans (h.o2.white (by omega))).of hc, hc⟩
theorem wtr {a b c : Nat} (h1 : Out a → c = a) (h2 : a = b) (h0 : Out b) : c = b := (h1 (by rw [h2]; exact h0)).trans h2
end
def QS (w0 : World) (g i : Nat) (e : TypeId) (sz : Nat) (A : Option Addr) (n : Nat) (xs : List Value) (L : Array Value) (ib ia : Nat) (c : Nat) (us : Nat → Value) (w' : World) : Prop :=
  (c = 0 → w' = w0) ∧ (c = 1 → us ib = .slice (some ⟨w0.heap.size, 0, none⟩) 1 1 ∧ w' = w0.alloc (.cells L e)) ∧
  (2 ≤ c → ∃ A' c' w2 b, us ia = .slice A' (n + 1) c' ∧ OwnQ w2 e sz A' (n + 1) c' (xs ++ L.toList) ∧ (w0.alloc (.cells L e)).grownBy w2 (blk A) ∧ blk A' = some b ∧ (blk A = some b ∨ (w0.alloc (.cells L e)).heap.size ≤ b) ∧ (c = 2 → w' = w2) ∧ (3 ≤ c → w' = w2.setCell ⟨g, i, none⟩ (.slice A' (n + 1) c')))
section
variable {w0 : World} {g i : Nat} {e : TypeId} {sz : Nat} {A : Option Addr} {n : Nat} {xs : List Value} {L : Array Value} {ib ia is : Nat} {us : Nat → Value} {w' : World}
theorem QS.loc {ops : Array Oper} : ∀ c us us' w, (∀ k, mayAt ops [ib, ia, is] c k = false ∨ k ∈ [ib, ia, is].take c → us k = us' k) → QS w0 g i e sz A n xs L ib ia c us w → QS w0 g i e sz A n xs L ib ia c us' w := by
  intro c us us' w hk ⟨a, b, d⟩
  refine ⟨a, fun hc => ?_, fun hc => ?_⟩
  · rw [← hk ib (.inr (by subst hc; simp))]
    exact b hc
  · rw [← hk ia (.inr (by obtain ⟨k, rfl⟩ : ∃ k, c = k + 2 := ⟨c - 2, by omega⟩; simp))]
    exact d hc
theorem QS.zero : QS w0 g i e sz A n xs L ib ia 0 us w0 := ⟨fun _ => rfl, fun h => by omega, fun h => by omega⟩
theorem QS.one : QS w0 g i e sz A n xs L ib ia 1 (fun k => if k = ib then .slice (some ⟨w0.heap.size, 0, none⟩) 1 1 else us k) (w0.alloc (.cells L e)) :=
  ⟨fun h => by omega, fun _ => ⟨if_pos rfl, rfl⟩, fun h => by omega⟩
theorem QS.early {c : Nat} (h : QS w0 g i e sz A n xs L ib ia c us w') (hc : c < 2) : Below w0.heap.size w0 w' := by
  rcases (show c = 0 ∨ c = 1 by omega) with h1 | h1
  · rw [h.1 h1]; exact Below.refl _ _
  · rw [(h.2.1 h1).2]; exact (Below.refl _ _).alloc (Nat.le_refl _) _
theorem QS.two {A' : Option Addr} {c' b : Nat} {w2 : World} (h2 : OwnQ w2 e sz A' (n + 1) c' (xs ++ L.toList)) (h3 : (w0.alloc (.cells L e)).grownBy w2 (blk A)) (h4 : blk A' = some b) (h5 : blk A = some b ∨ (w0.alloc (.cells L e)).heap.size ≤ b) :
    QS w0 g i e sz A n xs L ib ia 2 (fun k => if k = ia then .slice A' (n + 1) c' else us k) w2 := ⟨fun h => by omega, fun h => by omega, fun _ => ⟨A', c', w2, b, if_pos rfl, h2, h3, h4, h5, fun _ => rfl, fun h => by omega⟩⟩
theorem QS.three {A' : Option Addr} {c' : Nat} {w2 : World} (h : QS w0 g i e sz A n xs L ib ia 2 us w2) (hu : us ia = .slice A' (n + 1) c') : QS w0 g i e sz A n xs L ib ia 3 us (w2.setCell ⟨g, i, none⟩ (.slice A' (n + 1) c')) := by
  obtain ⟨A2, c2, w3, b, hu2, h2, h3, h4, h5, h6, -⟩ := h.2.2 (by omega)
  have e := hu.symm.trans hu2
  injection e with e1 e2 e3
  subst e1 e3
  have e4 := h6 rfl
  subst e4
  exact ⟨fun h => by omega, fun h => by omega, fun _ => ⟨A', c', w2, b, hu, h2, h3, h4, h5, fun h => by omega, fun _ => rfl⟩⟩
end
section
variable {P : Program} {K : Act → World → Prop} {Q : Exit → Act → World → Prop} {a : Act} {w : World} {dst : Option Tmp} {typ : TypeId} {pos : String} {after : Array Edge}
theorem step_build_1 {t e : TypeId} {x : Operand} {L : Array Value} {zv : Value} {size bytes : Nat} (hu : P.underlying t = some (.slice e)) (hinfo : (P.info? e).map (fun i => (i.zero, i.size, i.bytes)) = some (some zv, size, bytes)) (hL : L.size = size) (hsz : 0 < size) (hsm : size ≤ 1000)
    (hx : a.eval x = .agg L) (h : K (a.put dst (.slice (some ⟨w.heap.size, 0, none⟩) 1 1)) (w.alloc (.cells L e))) :
    Oper.wp P { dst := dst, op := .buildSlice t 1 #[(0, x)], type := typ, pos := pos, after := after, guard := none } a w K Q := by
  obtain ⟨i, hi, hz⟩ := Option.map_eq_some_iff.1 hinfo
  simp only [Prod.mk.injEq] at hz
  obtain ⟨hz0, hz1, hz2⟩ := hz
  refine wp_buildSlice (o := { dst := dst, op := .buildSlice t 1 #[(0, x)], type := typ, pos := pos, after := after, guard := none }) t e 1 #[(0, x)] rfl L i zv hu hi hz0 (by omega) (by omega) ?_ h
  have e1 : (#[(0, x)].map fun (i, x) => (i, a.eval x)).toList = (([Value.agg L] : List Value).zipIdx 0).map fun x => (x.2, x.1) := by simp [hx]
  rw [e1, hz1, Great.fill_whole hsz [Value.agg L] _ (fun v hv => by obtain rfl := List.mem_singleton.1 hv; exact hL) (by simp)]
  simp [Value.cells]
end
end
section
open Go.RowKit
set_option linter.unusedVariables false
def wdB (v : Int) : List UInt8 := [UInt8.ofNat v.toNat, UInt8.ofNat (v.toNat / 256)]
def wdN (b : List UInt8) : Int := if b.length = 2 then ((b.getD 0 0).toNat : Int) + 256 * ((b.getD 1 0).toNat : Int) else -1
theorem wdN_wdB {v : Int} (h0 : 0 ≤ v) (h1 : v ≤ 65535) : wdN (wdB v) = v := by
  unfold wdN wdB
  rw [if_pos (by rfl)]
  simp only [List.getD_eq_getElem?_getD, List.getElem?_cons_zero, List.getElem?_cons_succ, Option.getD_some, UInt8.toNat_ofNat']
  omega
theorem wdB_len (v : Int) : (wdB v).length = 2 := rfl
def reqN (l : List RM) : List Int := l.filterMap fun m => if m.k = 1 then some m.n else none
def repN (l : List RM) : List Int := l.filterMap fun m => if m.k = 1 then none else some m.n
theorem reqN_app (a b : List RM) : reqN (a ++ b) = reqN a ++ reqN b := List.filterMap_append
theorem repN_app (a b : List RM) : repN (a ++ b) = repN a ++ repN b := List.filterMap_append
theorem reqN_q {m : RM} (h : m.k = 1) (l : List RM) : reqN (m :: l) = m.n :: reqN l := by simp [reqN, h]
theorem repN_q {m : RM} (h : m.k = 1) (l : List RM) : repN (m :: l) = repN l := by simp [repN, h]
theorem reqN_p {m : RM} (h : m.k ≠ 1) (l : List RM) : reqN (m :: l) = reqN l := by simp [reqN, h]
theorem repN_p {m : RM} (h : m.k ≠ 1) (l : List RM) : repN (m :: l) = m.n :: repN l := by simp [repN, h]
def iotaN (a n : Nat) : List Int := (List.range' a n).map fun k : Nat => (k : Int)
theorem iotaN_snoc (a n : Nat) : iotaN a (n + 1) = iotaN a n ++ [((a + n : Nat) : Int)] := by
  unfold iotaN
  rw [List.range'_concat]
  simp
theorem iotaN_cons {a n : Nat} {x : Int} {l : List Int} (h : x :: l = iotaN a n) : 0 < n ∧ x = a ∧ l = iotaN (a + 1) (n - 1) := by
  cases n with
  | zero => simp [iotaN] at h
  | succ n =>
    unfold iotaN at h
    rw [List.range'_succ, List.map_cons] at h
    injection h with h1 h2
    exact ⟨by omega, h1, by rw [h2]; rfl⟩
theorem upB_of {last : Int} : ∀ {l : List Int} {p : Int}, (∀ n ∈ l, 1 ≤ n ∧ n ≤ last) → l.Pairwise (· < ·) → (∀ n ∈ l, p < n) → upB last p l = true
  | [], _, _, _, _ => rfl
  | x :: l, p, h1, h2, h3 => by
    have hx := h1 x (List.mem_cons_self ..)
    have hp := h3 x (List.mem_cons_self ..)
    rw [List.pairwise_cons] at h2
    have := upB_of (fun n hn => h1 n (List.mem_cons_of_mem _ hn)) h2.2 h2.1
    simp [upB, this, hx, hp]
theorem numB_of {last cr : Int} {l : List Int} (h1 : ∀ n ∈ l, 1 ≤ n ∧ n ≤ last) (h2 : l.Pairwise (· < ·)) (h3 : (l.length : Int) ≤ cr) : numB last cr l = true := by
  unfold numB
  rw [upB_of h1 h2 (fun n hn => by have := h1 n hn; omega)]
  simp [h3]
theorem nodup_lt {l : List Int} (h : l.Pairwise (· < ·)) : l.Nodup := h.imp fun {a b} h => by omega
theorem erase_idx {l : List Int} {n : Int} : l.eraseIdx (l.idxOf n) = l.erase n := (List.erase_eq_eraseIdx_of_idxOf rfl).symm
structure UDir (N : Int) (cs : List Int) (la : Int) (ss : List Int) (se : Int) (rep req : List Int) (V A O : List Int) : Prop where
  lv : la = V.length
  sv : se = A.length
  ol : O.length = V.length
  al : A.length ≤ V.length
  ask : A = V.take A.length
  vb : ∀ v ∈ V, 0 ≤ v ∧ v ≤ 65535
  asc : cs.Pairwise (· < ·)
  sasc : ss.Pairwise (· < ·)
  cb : ∀ n ∈ cs, 1 ≤ n ∧ n ≤ la
  sb : ∀ n ∈ ss, 1 ≤ n ∧ n ≤ se
  cl : (cs.length : Int) ≤ N
  perm : cs.Perm (ss ++ (rep ++ req))
  rq : req = iotaN (A.length + 1) (V.length - A.length)
  ov : ∀ k, k < V.length → O[k]? = some (if ((k : Int) + 1) ∈ cs then 0 else 1)
section
variable {N la se : Int} {cs ss rep req V A O : List Int}
theorem UDir.zero (h : 1 ≤ N) : UDir N [] 0 [] 0 [] [] [] [] [] := ⟨rfl, rfl, rfl, Nat.le_refl _, rfl, fun v h => (by cases h), List.Pairwise.nil, List.Pairwise.nil, fun v h => (by cases h), fun v h => (by cases h), (by simp; omega), List.Perm.refl _, rfl, fun k h => (by simp at h)⟩
theorem UDir.sl (h : UDir N cs la ss se rep req V A O) : ss.length + (rep.length + req.length) = cs.length := by
  have := h.perm.length_eq
  simp only [List.length_append] at this
  omega
theorem UDir.call (h : UDir N cs la ss se rep req V A O) (hn : (cs.length : Int) < N) {v : Int} (v0 : 0 ≤ v) (v1 : v ≤ 65535) : UDir N (cs ++ [la + 1]) (la + 1) ss se rep (req ++ [la + 1]) (V ++ [v]) A (O ++ [0]) := by
  have hla := h.lv
  have hol := h.ol
  have hal := h.al
  refine ⟨by simp [hla], h.sv, by simp [hol], by simp; omega, ?_, ?_, ?_, h.sasc, ?_, h.sb, ?_, ?_, ?_, ?_⟩
  · rw [List.take_append_of_le_length h.al]; exact h.ask
  · intro x hx
    rcases List.mem_append.1 hx with hx | hx
    · exact h.vb x hx
    · rw [List.mem_singleton.1 hx]; exact ⟨v0, v1⟩
  · rw [List.pairwise_append]
    refine ⟨h.asc, List.pairwise_singleton _ _, fun a ha b hb => ?_⟩
    rw [List.mem_singleton.1 hb]
    have := h.cb a ha
    omega
  · intro n hn
    rcases List.mem_append.1 hn with hn | hn
    · have := h.cb n hn; omega
    · rw [List.mem_singleton.1 hn]; omega
  · simp; omega
  · have := h.perm.append_right [la + 1]
    simpa using this
  · rw [h.rq, show (V ++ [v]).length - A.length = (V.length - A.length) + 1 by simp; omega, iotaN_snoc]
    congr 2
    rw [hla]
    omega
  · intro k hk
    simp only [List.length_append, List.length_singleton] at hk
    by_cases hkv : k < V.length
    · rw [List.getElem?_append_left (by omega), h.ov k hkv]
      congr 1
      have : ((k : Int) + 1 ∈ cs ++ [la + 1]) ↔ ((k : Int) + 1 ∈ cs) := by
        simp only [List.mem_append, List.mem_singleton]
        constructor
        · rintro (h1 | h1)
          · exact h1
          · omega
        · exact .inl
      simp only [this]
    · obtain rfl : k = V.length := by omega
      rw [List.getElem?_append_right (by omega), hol, Nat.sub_self]
      rw [if_pos (by rw [hla]; simp)]
      rfl
theorem UDir.request (h : UDir N cs la ss se rep req V A O) {n : Int} {rs : List Int} (hr : req = n :: rs) :
    n = se + 1 ∧ (ss.length : Int) < N ∧ A.length < V.length ∧ ∀ v, V[A.length]? = some v → UDir N cs la (ss ++ [n]) n rep rs V (A ++ [v]) O := by
  have hrq := h.rq
  rw [hr] at hrq
  obtain ⟨h1, h2, h3⟩ := iotaN_cons hrq
  have hs := h.sl
  have hcl := h.cl
  have hse := h.sv
  rw [hr, List.length_cons] at hs
  refine ⟨by rw [h2, hse]; omega, by omega, by omega, fun v hv => ?_⟩
  have hp := h.perm
  rw [hr] at hp
  refine ⟨h.lv, by rw [h2]; simp, h.ol, by simp; omega, ?_, h.vb, h.asc, ?_, h.cb, ?_, h.cl, ?_, ?_, h.ov⟩
  · rw [List.length_append, List.length_singleton, List.take_add_one, hv]
    rw [← h.ask]
    rfl
  · rw [List.pairwise_append]
    refine ⟨h.sasc, List.pairwise_singleton _ _, fun a ha b hb => ?_⟩
    rw [List.mem_singleton.1 hb]
    have := h.sb a ha
    omega
  · intro m hm
    rcases List.mem_append.1 hm with hm | hm
    · have := h.sb m hm; omega
    · rw [List.mem_singleton.1 hm]; omega
  · refine hp.trans ?_
    have e1 : (ss ++ (rep ++ n :: rs)).Perm (n :: (ss ++ (rep ++ rs))) := by
      rw [← List.append_assoc, ← List.append_assoc]
      exact List.perm_middle
    have e2 : (ss ++ [n] ++ (rep ++ rs)).Perm (n :: (ss ++ (rep ++ rs))) := by
      rw [List.append_assoc]
      exact List.perm_middle
    exact e1.trans e2.symm
  · rw [h3, List.length_append, List.length_singleton]
    congr 1
theorem UDir.reply (h : UDir N cs la ss se rep req V A O) {n : Int} (hn : n ∈ ss) : 1 ≤ n ∧ n ≤ A.length ∧ UDir N cs la (ss.erase n) se (rep ++ [n]) req V A O := by
  have hb := h.sb n hn
  have hse := h.sv
  refine ⟨hb.1, by omega, h.lv, h.sv, h.ol, h.al, h.ask, h.vb, h.asc, h.sasc.erase n, h.cb, fun m hm => h.sb m (List.mem_of_mem_erase hm), h.cl, ?_, h.rq, h.ov⟩
  refine h.perm.trans ?_
  have e1 : (ss ++ (rep ++ req)).Perm (n :: (ss.erase n ++ (rep ++ req))) := (List.perm_cons_erase hn).append_right _
  have e2 : (ss.erase n ++ (rep ++ [n] ++ req)).Perm (n :: (ss.erase n ++ (rep ++ req))) := by
    rw [List.append_assoc, ← List.append_assoc, List.singleton_append, ← List.append_assoc]
    exact List.perm_middle
  exact e1.trans e2.symm
theorem UDir.answer (h : UDir N cs la ss se rep req V A O) {n : Int} {rs : List Int} (hr : rep = n :: rs) {k : Nat} (hk : n = (k : Int) + 1) :
    n ∈ cs ∧ k < V.length ∧ O[k]? = some 0 ∧ UDir N (cs.erase n) la ss se rs req V A (O.set k 1) := by
  have hp := h.perm
  rw [hr] at hp
  have e1 : (ss ++ (n :: rs ++ req)).Perm (n :: (ss ++ (rs ++ req))) := List.perm_middle
  have hmem : n ∈ cs := hp.mem_iff.2 (e1.mem_iff.2 (List.mem_cons_self ..))
  have hb := h.cb n hmem
  have hla := h.lv
  have hkv : k < V.length := by omega
  have hnd := nodup_lt h.asc
  refine ⟨hmem, hkv, by rw [h.ov k hkv, if_pos (by rw [← hk]; exact hmem)], h.lv, h.sv, by simp [h.ol], h.al, h.ask, h.vb, h.asc.erase n, h.sasc, fun m hm => h.cb m (List.mem_of_mem_erase hm), h.sb, ?_, ?_, h.rq, ?_⟩
  · have := h.cl
    have := List.length_erase_of_mem hmem
    omega
  · have e2 := (hp.trans e1).erase n
    rwa [List.erase_cons_head] at e2
  · intro i hi
    by_cases hik : k = i
    · subst hik
      rw [List.getElem?_set_self (by rw [h.ol]; exact hi), if_neg (by rw [← hk]; exact hnd.not_mem_erase)]
    · rw [List.getElem?_set_ne hik, h.ov i hi]
      congr 1
      have : ((i : Int) + 1 ∈ cs.erase n) ↔ ((i : Int) + 1 ∈ cs) := by
        rw [hnd.mem_erase_iff]
        constructor
        · exact fun h => h.2
        · exact fun h => ⟨by omega, h⟩
      simp only [this]
end
structure UcS where
  (E : Nat → UE) (Y : Nat → List RM) (V A O : Nat → List Int)
def MsgOk (V : Nat → List Int) (s : Nat) (m : RM) : Prop := ∃ (k : Nat) (v : Int), ((V (1 - s))[k]? = some v ∧ m = rqM ((k : Int) + 1) v (wdB v)) ∨ ((V s)[k]? = some v ∧ m = rpM ((k : Int) + 1) 0 (wdB v))
structure Sd1 (N : Int) (c : Nat) (S : UcS) (s o : Nat) : Prop where
  cr : (S.E s).cr = N
  dd : (S.E s).dd = false
  lc : (S.V s).length ≤ c
  dir : UDir N (S.E s).cs (S.E s).la (S.E o).ss (S.E o).se (repN (S.Y s)) (reqN (S.Y o)) (S.V s) (S.A o) (S.O s)
  msg : ∀ m ∈ S.Y s, MsgOk S.V s m
structure UInv (N : Int) (c : Nat) (S : UcS) : Prop where
  n1 : 1 ≤ N
  n2 : N ≤ 16
  cb : c ≤ 1000000
  d0 : Sd1 N c S 0 1
  d1 : Sd1 N c S 1 0
theorem UInv.sd {N : Int} {c : Nat} {S : UcS} (h : UInv N c S) {s : Nat} (hs : s < 2) : Sd1 N c S s (1 - s) := by
  rcases (show s = 0 ∨ s = 1 by omega) with rfl | rfl
  · exact h.d0
  · exact h.d1
theorem UInv.sd' {N : Int} {c : Nat} {S : UcS} (h : UInv N c S) {s : Nat} (hs : s < 2) : Sd1 N c S (1 - s) s := by
  rcases (show s = 0 ∨ s = 1 by omega) with rfl | rfl
  · exact h.d1
  · exact h.d0
theorem UInv.mk' {N : Int} {c : Nat} {S : UcS} (n1 : 1 ≤ N) (n2 : N ≤ 16) (cb : c ≤ 1000000) {s : Nat} (hs : s < 2) (h1 : Sd1 N c S s (1 - s)) (h2 : Sd1 N c S (1 - s) s) : UInv N c S := by
  rcases (show s = 0 ∨ s = 1 by omega) with rfl | rfl
  · exact ⟨n1, n2, cb, h1, h2⟩
  · exact ⟨n1, n2, cb, h2, h1⟩
theorem UInv.valid {N : Int} {c : Nat} {S : UcS} (h : UInv N c S) {s : Nat} (hs : s < 2) : uV (S.E s) = true := by
  have a := h.sd hs
  have b := h.sd' hs
  have h1 := a.dir.lv
  have h2 := b.dir.sv
  have h3 := a.lc
  have h4 := b.dir.al
  have h5 := b.lc
  have h6 := a.cr
  have h7 := h.cb
  have h8 := b.dir.sl
  have h9 := b.dir.cl
  have n1 := h.n1
  have n2 := h.n2
  unfold uV
  rw [numB_of a.dir.cb a.dir.asc (by rw [h6]; exact a.dir.cl), numB_of b.dir.sb b.dir.sasc (by rw [h6]; omega), a.dd]
  unfold bdB
  rw [h1, h2, h6]
  simp
  omega
theorem UInv.ok {N : Int} {c : Nat} {S : UcS} (h : UInv N c S) {s : Nat} (hs : s < 2) : uE (S.E s) = 0 := by
  unfold uE
  rw [if_pos (h.valid hs), if_neg (by rw [(h.sd hs).dd]; simp)]
theorem rq_ok {k : Nat} {v : Int} (hk : k < 1000000) (h0 : 0 ≤ v) (h1 : v ≤ 65535) : (rqM ((k : Int) + 1) v (wdB v)).ok = true := RM.ok_iff.2 ⟨by show 1 ≤ (k : Int) + 1; omega, by show (k : Int) + 1 ≤ _; omega, by show 2 ≤ _; omega, .inl ⟨rfl, h0, h1, rfl⟩⟩
theorem rq_ok0 {v : Int} (h0 : 0 ≤ v) (h1 : v ≤ 65535) : (rqM 1 v (wdB v)).ok = true := rq_ok (k := 0) (by omega) h0 h1
theorem rp_ok {k : Nat} {v : Int} (hk : k < 1000000) : (rpM ((k : Int) + 1) 0 (wdB v)).ok = true := RM.ok_iff.2 ⟨by show 1 ≤ (k : Int) + 1; omega, by show (k : Int) + 1 ≤ _; omega, by show 2 ≤ _; omega, .inr ⟨rfl, rfl, (by show (0 : Int) ≤ 0; omega), (by show (0 : Int) ≤ 255; omega), .inl rfl⟩⟩
theorem MsgOk.snoc {V : Nat → List Int} {s t : Nat} {m : RM} {v : Int} (h : MsgOk V s m) : MsgOk (upd V t (V t ++ [v])) s m := by
  have e : ∀ (i k : Nat) (x : Int), (V i)[k]? = some x → (upd V t (V t ++ [v]) i)[k]? = some x := fun i k x hx => by
    by_cases hi : i = t
    · subst hi
      rw [upd_self, List.getElem?_append_left (List.getElem?_eq_some_iff.1 hx).1]
      exact hx
    · rw [upd_other hi]; exact hx
  obtain ⟨k, x, h | h⟩ := h
  · exact ⟨k, x, .inl ⟨e _ _ _ h.1, h.2⟩⟩
  · exact ⟨k, x, .inr ⟨e _ _ _ h.1, h.2⟩⟩
theorem MsgOk.isOk {N : Int} {c : Nat} {S : UcS} (h : UInv N c S) {s : Nat} (hs : s < 2) {m : RM} (hm : m ∈ S.Y s) : m.ok = true := by
  obtain ⟨k, v, h1 | h1⟩ := (h.sd hs).msg m hm
  · have hv := (h.sd' hs).dir.vb v (List.mem_of_getElem? h1.1)
    have hk := (List.getElem?_eq_some_iff.1 h1.1).1
    have := (h.sd' hs).lc
    have := h.cb
    rw [h1.2]
    exact rq_ok (by omega) hv.1 hv.2
  · have hk := (List.getElem?_eq_some_iff.1 h1.1).1
    have := (h.sd hs).lc
    have := h.cb
    rw [h1.2]
    exact rp_ok (by omega)
def callS (S : UcS) (s : Nat) (v : Int) : UcS := { S with E := upd S.E s (calU (S.E s)), Y := upd S.Y (1 - s) (S.Y (1 - s) ++ [rqM ((S.E s).la + 1) v (wdB v)]), V := upd S.V s (S.V s ++ [v]), O := upd S.O s (S.O s ++ [0]) }
theorem uc_full {N : Int} {c : Nat} {S : UcS} (h : UInv N c S) {s : Nat} (hs : s < 2) {v : Int} (v0 : 0 ≤ v) (v1 : v ≤ 65535) (hf : ((S.E s).cs.length : Int) = (S.E s).cr) : calE (S.E s) v (wdB v) = 65 := by
  unfold calE
  rw [if_pos (h.ok hs), if_pos (rq_ok0 v0 v1), if_pos hf]
theorem uc_go {N : Int} {c : Nat} {S : UcS} (h : UInv N c S) {s : Nat} (hs : s < 2) {v : Int} (v0 : 0 ≤ v) (v1 : v ≤ 65535) (hf : ((S.E s).cs.length : Int) ≠ (S.E s).cr) (hc : c < 1000000) :
    calE (S.E s) v (wdB v) = 0 ∧ (S.E s).la = (S.V s).length ∧ UInv N (c + 1) (callS S s v) := by
  have a := h.sd hs
  have b := h.sd' hs
  have hla := a.dir.lv
  have hlc := a.lc
  have hcl := a.dir.cl
  have hcr := a.cr
  refine ⟨?_, hla, ?_⟩
  · unfold calE
    rw [if_pos (h.ok hs), if_pos (rq_ok0 v0 v1), if_neg hf, if_neg (by omega)]
  · have hso : s ≠ 1 - s := by omega
    have hos : 1 - s ≠ s := by omega
    have hd := a.dir.call (by omega) v0 v1
    have hY1 : reqN (S.Y (1 - s) ++ [rqM ((S.E s).la + 1) v (wdB v)]) = reqN (S.Y (1 - s)) ++ [(S.E s).la + 1] := by rw [reqN_app]; rfl
    have hY2 : repN (S.Y (1 - s) ++ [rqM ((S.E s).la + 1) v (wdB v)]) = repN (S.Y (1 - s)) := by rw [repN_app]; exact List.append_nil _
    refine UInv.mk' h.n1 h.n2 (by omega) hs ⟨?_, ?_, ?_, ?_, ?_⟩ ⟨?_, ?_, ?_, ?_, ?_⟩
    · simp only [callS, upd_self]; exact hcr
    · simp only [callS, upd_self]; exact a.dd
    · simp only [callS, upd_self, List.length_append, List.length_singleton]; omega
    · simp only [callS, upd_self, upd_other hso, upd_other hos, hY1]; exact hd
    · intro m hm
      simp only [callS, upd_other hso] at hm
      exact (a.msg m hm).snoc
    · simp only [callS, upd_other hos]; exact b.cr
    · simp only [callS, upd_other hos]; exact b.dd
    · simp only [callS, upd_other hos]; have := b.lc; omega
    · simp only [callS, upd_self, upd_other hso, upd_other hos, hY2]; exact b.dir
    · intro m hm
      simp only [callS, upd_self] at hm
      rcases List.mem_append.1 hm with hm | hm
      · exact (b.msg m hm).snoc
      · rw [List.mem_singleton.1 hm]
        refine ⟨(S.V s).length, v, .inl ⟨?_, by rw [hla]⟩⟩
        rw [show 1 - (1 - s) = s by omega]
        simp only [callS, upd_self]
        simp
def rcvS (S : UcS) (s : Nat) (m : RM) (ys : List RM) : UcS :=
  if m.k = 1 then { S with E := upd S.E s { S.E s with se := m.n, ss := (S.E s).ss ++ [m.n] }, Y := upd S.Y s ys, A := upd S.A s (S.A s ++ [m.s]) }
  else { S with E := upd S.E s { S.E s with cs := (S.E s).cs.erase m.n }, Y := upd S.Y s ys, O := upd S.O s ((S.O s).set (m.n - 1).toNat 1) }
theorem uc_req {N : Int} {c : Nat} {S : UcS} (h : UInv N c S) {s : Nat} (hs : s < 2) {m : RM} {ys : List RM} (hY : S.Y s = m :: ys) (hk : m.k = 1) :
    rcvE (S.E s) m.by = 0 ∧ dM m.by = m ∧ rcvU (S.E s) m.by = { S.E s with se := m.n, ss := (S.E s).ss ++ [m.n] } ∧ m.n = (S.A s).length + 1 ∧ (S.A s).length < (S.V (1 - s)).length ∧ (S.V (1 - s))[(S.A s).length]? = some m.s ∧ wdN m.b = m.s ∧ UInv N c (rcvS S s m ys) := by
  have a := h.sd hs
  have b := h.sd' hs
  have hm := MsgOk.isOk h hs (m := m) (by rw [hY]; exact List.mem_cons_self ..)
  obtain ⟨d1, d2⟩ := rm_dec hm
  have hr : reqN (S.Y s) = m.n :: reqN ys := by rw [hY, reqN_q hk]
  obtain ⟨e1, e2, e3, e4⟩ := b.dir.request hr
  have hse := b.dir.sv
  obtain ⟨k, v, h1 | h1⟩ := a.msg m (by rw [hY]; exact List.mem_cons_self ..)
  case inr => exfalso; rw [h1.2] at hk; cases hk
  have hkn : m.n = (k : Int) + 1 := by rw [h1.2]; rfl
  have hkA : k = (S.A s).length := by omega
  have hms : m.s = v := by rw [h1.2]; rfl
  have hvb := b.dir.vb v (List.mem_of_getElem? h1.1)
  have hmb : wdN m.b = m.s := by rw [hms, h1.2]; exact wdN_wdB hvb.1 hvb.2
  have hVv := h1.1
  rw [hkA, ← hms] at hVv
  refine ⟨?_, d2, ?_, by omega, e3, hVv, hmb, ?_⟩
  · unfold rcvE
    rw [if_pos (h.ok hs), if_pos d1, d2, if_pos hk, if_pos e1, if_neg (by have := a.cr; omega)]
  · unfold rcvU
    rw [d2, if_pos hk]
  · have hso : s ≠ 1 - s := by omega
    have hos : 1 - s ≠ s := by omega
    have hp : repN (S.Y s) = repN ys := by rw [hY, repN_q hk]
    have hd := e4 _ hVv
    have ha := a.dir
    rw [hp] at ha
    unfold rcvS
    rw [if_pos hk]
    refine UInv.mk' h.n1 h.n2 h.cb hs ⟨?_, ?_, ?_, ?_, ?_⟩ ⟨?_, ?_, ?_, ?_, ?_⟩
    · simp only [upd_self]; exact a.cr
    · simp only [upd_self]; exact a.dd
    · exact a.lc
    · simp only [upd_self, upd_other hos]; exact ha
    · intro m' hm'
      simp only [upd_self] at hm'
      exact a.msg m' (by rw [hY]; exact List.mem_cons_of_mem _ hm')
    · simp only [upd_other hos]; exact b.cr
    · simp only [upd_other hos]; exact b.dd
    · exact b.lc
    · simp only [upd_self, upd_other hos]; exact hd
    · intro m' hm'
      simp only [upd_other hos] at hm'
      exact b.msg m' hm'
theorem uc_ans {N : Int} {c : Nat} {S : UcS} (h : UInv N c S) {s : Nat} (hs : s < 2) {m : RM} {ys : List RM} (hY : S.Y s = m :: ys) (hk : m.k ≠ 1) :
    m.k = 2 ∧ rcvE (S.E s) m.by = 0 ∧ dM m.by = m ∧ rcvU (S.E s) m.by = { S.E s with cs := (S.E s).cs.erase m.n } ∧ ∃ k : Nat, m.n = (k : Int) + 1 ∧ k < (S.O s).length ∧ (S.O s)[k]? = some 0 ∧ (S.V s)[k]? = some (wdN m.b) ∧ UInv N c (rcvS S s m ys) := by
  have a := h.sd hs
  have b := h.sd' hs
  have hm := MsgOk.isOk h hs (m := m) (by rw [hY]; exact List.mem_cons_self ..)
  obtain ⟨d1, d2⟩ := rm_dec hm
  have hr : repN (S.Y s) = m.n :: repN ys := by rw [hY, repN_p hk]
  obtain ⟨k, v, h1 | h1⟩ := a.msg m (by rw [hY]; exact List.mem_cons_self ..)
  case inl => exfalso; rw [h1.2] at hk; exact hk rfl
  have hkn : m.n = (k : Int) + 1 := by rw [h1.2]; rfl
  obtain ⟨e1, e2, e3, e4⟩ := a.dir.answer hr hkn
  have hvb := a.dir.vb v (List.mem_of_getElem? h1.1)
  have hmb : wdN m.b = v := by rw [h1.2]; exact wdN_wdB hvb.1 hvb.2
  refine ⟨by rw [h1.2]; rfl, ?_, d2, ?_, k, hkn, by rw [a.dir.ol]; exact e2, e3, by rw [hmb]; exact h1.1, ?_⟩
  · unfold rcvE
    rw [if_pos (h.ok hs), if_pos d1, d2, if_neg hk, if_pos e1]
  · unfold rcvU
    rw [d2, if_neg hk, erase_idx]
  · have hso : s ≠ 1 - s := by omega
    have hos : 1 - s ≠ s := by omega
    have hp : reqN (S.Y s) = reqN ys := by rw [hY, reqN_p hk]
    have hb := b.dir
    rw [hp] at hb
    unfold rcvS
    rw [if_neg hk, show (m.n - 1).toNat = k by omega]
    refine UInv.mk' h.n1 h.n2 h.cb hs ⟨?_, ?_, ?_, ?_, ?_⟩ ⟨?_, ?_, ?_, ?_, ?_⟩
    · simp only [upd_self]; exact a.cr
    · simp only [upd_self]; exact a.dd
    · exact a.lc
    · simp only [upd_self, upd_other hos]; exact e4
    · intro m' hm'
      simp only [upd_self] at hm'
      exact a.msg m' (by rw [hY]; exact List.mem_cons_of_mem _ hm')
    · simp only [upd_other hos]; exact b.cr
    · simp only [upd_other hos]; exact b.dd
    · exact b.lc
    · simp only [upd_self, upd_other hos]; exact hb
    · intro m' hm'
      simp only [upd_other hos] at hm'
      exact b.msg m' hm'
def repS (S : UcS) (s : Nat) (n v : Int) : UcS := { S with E := upd S.E s (repU (S.E s) n), Y := upd S.Y (1 - s) (S.Y (1 - s) ++ [rpM n 0 (wdB v)]) }
theorem uc_rep {N : Int} {c : Nat} {S : UcS} (h : UInv N c S) {s : Nat} (hs : s < 2) {n : Int} (hn : n ∈ (S.E s).ss) :
    1 ≤ n ∧ n ≤ (S.A s).length ∧ ∃ v, (S.A s)[(n - 1).toNat]? = some v ∧ 0 ≤ v ∧ v ≤ 65535 ∧ repE (S.E s) n 0 (wdB v) = 0 ∧ UInv N c (repS S s n v) := by
  have a := h.sd hs
  have b := h.sd' hs
  obtain ⟨e1, e2, e3⟩ := b.dir.reply hn
  have hal := b.dir.al
  obtain ⟨k, rfl⟩ : ∃ k : Nat, n = (k : Int) + 1 := ⟨(n - 1).toNat, by omega⟩
  obtain ⟨v, hv⟩ : ∃ v, (S.A s)[k]? = some v := ⟨_, List.getElem?_eq_getElem (by omega)⟩
  have hV : (S.V (1 - s))[k]? = some v := by
    rw [b.dir.ask, List.getElem?_take] at hv
    split at hv
    · exact hv
    · cases hv
  have hvb := b.dir.vb v (List.mem_of_getElem? hV)
  have hlc := b.lc
  have hcb := h.cb
  refine ⟨e1, e2, v, by rw [show ((k : Int) + 1 - 1).toNat = k by omega]; exact hv, hvb.1, hvb.2, ?_, ?_⟩
  · unfold repE
    rw [if_pos (h.ok hs), if_pos hn, if_pos (rp_ok (by omega))]
  · have hso : s ≠ 1 - s := by omega
    have hos : 1 - s ≠ s := by omega
    have hY1 : reqN (S.Y (1 - s) ++ [rpM ((k : Int) + 1) 0 (wdB v)]) = reqN (S.Y (1 - s)) := by rw [reqN_app]; exact List.append_nil _
    have hY2 : repN (S.Y (1 - s) ++ [rpM ((k : Int) + 1) 0 (wdB v)]) = repN (S.Y (1 - s)) ++ [(k : Int) + 1] := by rw [repN_app]; rfl
    have hU : repU (S.E s) ((k : Int) + 1) = { S.E s with ss := (S.E s).ss.erase ((k : Int) + 1) } := by unfold repU; rw [erase_idx]
    unfold repS
    rw [hU]
    refine UInv.mk' h.n1 h.n2 h.cb hs ⟨?_, ?_, ?_, ?_, ?_⟩ ⟨?_, ?_, ?_, ?_, ?_⟩
    · simp only [upd_self]; exact a.cr
    · simp only [upd_self]; exact a.dd
    · exact a.lc
    · simp only [upd_self, upd_other hso, upd_other hos, hY1]; exact a.dir
    · intro m' hm'
      simp only [upd_other hso] at hm'
      exact a.msg m' hm'
    · simp only [upd_other hos]; exact b.cr
    · simp only [upd_other hos]; exact b.dd
    · exact b.lc
    · simp only [upd_self, upd_other hos, upd_other hso, hY2]; exact e3
    · intro m' hm'
      simp only [upd_self] at hm'
      rcases List.mem_append.1 hm' with hm' | hm'
      · exact b.msg m' hm'
      · rw [List.mem_singleton.1 hm']
        exact ⟨k, v, .inr ⟨hV, rfl⟩⟩
def newUS (n : Int) : UcS := ⟨fun _ => ⟨n, 0, 0, [], [], false⟩, fun _ => [], fun _ => [], fun _ => [], fun _ => []⟩
theorem newUS_inv {n : Int} (h1 : 1 ≤ n) (h2 : n ≤ 16) : UInv n 0 (newUS n) :=
  ⟨h1, h2, by omega, ⟨rfl, rfl, Nat.le_refl _, UDir.zero h1, fun m h => by cases h⟩, ⟨rfl, rfl, Nat.le_refl _, UDir.zero h1, fun m h => by cases h⟩⟩
def UcS.pot (S : UcS) (s : Nat) : Nat := 3 * (reqN (S.Y s)).length + (repN (S.Y s)).length + 2 * (S.E s).ss.length
theorem uc_yl (l : List RM) : (reqN l).length + (repN l).length = l.length := by
  induction l with
  | nil => rfl
  | cons m l ih =>
    by_cases h : m.k = 1
    · rw [reqN_q h, repN_q h, List.length_cons, List.length_cons]; omega
    · rw [reqN_p h, repN_p h, List.length_cons, List.length_cons]; omega
theorem uc_pot_rcv {S : UcS} {s : Nat} (hs : s < 2) {m : RM} {ys : List RM} (hY : S.Y s = m :: ys) : (rcvS S s m ys).pot s + 1 = S.pot s ∧ (rcvS S s m ys).pot (1 - s) = S.pot (1 - s) := by
  have hos : 1 - s ≠ s := by omega
  unfold rcvS UcS.pot
  by_cases hk : m.k = 1
  · rw [if_pos hk]
    simp only [upd_self, upd_other hos, hY, reqN_q hk, repN_q hk, List.length_append, List.length_cons, List.length_nil]
    exact ⟨by omega, trivial⟩
  · rw [if_neg hk]
    simp only [upd_self, upd_other hos, hY, reqN_p hk, repN_p hk, List.length_cons]
    exact ⟨by omega, trivial⟩
theorem uc_pot_rep {S : UcS} {s : Nat} (hs : s < 2) {n v : Int} (hn : n ∈ (S.E s).ss) : (repS S s n v).pot s + 2 = S.pot s ∧ (repS S s n v).pot (1 - s) = S.pot (1 - s) + 1 := by
  have hos : 1 - s ≠ s := by omega
  have hso : s ≠ 1 - s := by omega
  have hl := List.length_erase_of_mem hn
  have hp := List.length_pos_of_mem hn
  unfold repS UcS.pot
  simp only [upd_self, upd_other hos, upd_other hso, repU, erase_idx, reqN_app, repN_app, List.length_append]
  have e1 : (reqN [rpM n 0 (wdB v)]).length = 0 := rfl
  have e2 : (repN [rpM n 0 (wdB v)]).length = 1 := rfl
  rw [e1, e2, hl]
  omega
theorem uc_pot_zero {N : Int} {c : Nat} {S : UcS} (h : UInv N c S) (h0 : S.pot 0 = 0) (h1 : S.pot 1 = 0) {s : Nat} (hs : s < 2) : S.Y s = [] ∧ (S.E s).cs = [] ∧ (S.E s).ss = [] ∧ ∀ k, k < (S.O s).length → (S.O s)[k]? = some 1 := by
  have y0 := uc_yl (S.Y 0)
  have y1 := uc_yl (S.Y 1)
  unfold UcS.pot at h0 h1
  have a := (h.sd hs).dir
  have e1 : S.Y s = [] := List.eq_nil_of_length_eq_zero (by rcases (show s = 0 ∨ s = 1 by omega) with rfl | rfl <;> omega)
  have e2 : (S.E s).ss = [] := List.eq_nil_of_length_eq_zero (by rcases (show s = 0 ∨ s = 1 by omega) with rfl | rfl <;> omega)
  have e3 : (S.E s).cs = [] := by
    have := a.sl
    refine List.eq_nil_of_length_eq_zero ?_
    rcases (show s = 0 ∨ s = 1 by omega) with rfl | rfl <;> simp only [Nat.sub_self, Nat.sub_zero] at this <;> omega
  refine ⟨e1, e3, e2, fun k hk => ?_⟩
  rw [a.ov k (by rw [← a.ol]; exact hk), e3, if_neg (by simp)]
end
section
open Go.RowKit
set_option linter.unusedVariables false
structure CnS where
  (E : Nat → UE) (Z : Nat → List (List UInt8)) (I : Nat → List Int)
def CnS.putE (S : CnS) (s : Nat) (e : UE) : CnS := { S with E := upd S.E s e }
def CnS.appZ (S : CnS) (s : Nat) (m : List UInt8) : CnS := { S with Z := upd S.Z s (S.Z s ++ [m]) }
def CnS.tailZ (S : CnS) (s : Nat) (zs : List (List UInt8)) : CnS := { S with Z := upd S.Z s zs }
def CnS.appI (S : CnS) (i : Nat) (x : Int) : CnS := { S with I := upd S.I i (S.I i ++ [x]) }
def CnS.setI (S : CnS) (i k : Nat) (x : Int) : CnS := { S with I := upd S.I i ((S.I i).set k x) }
structure CnP where
  (A B : Nat → Option Addr) (c d : Nat → Nat) (zA iA : Nat → Option Addr) (zc ic : Nat → Nat)
def CCell (S : CnS) (p : CnP) : List Value :=
  (UEV (S.E 0) (p.A 0) (p.c 0) (p.B 0) (p.d 0)).toList ++ ((UEV (S.E 1) (p.A 1) (p.c 1) (p.B 1) (p.d 1)).toList ++ [.slice (p.zA 0) (S.Z 0).length (p.zc 0), .slice (p.zA 1) (S.Z 1).length (p.zc 1), .slice (p.iA 0) (S.I 0).length (p.ic 0), .slice (p.iA 1) (S.I 1).length (p.ic 1), .slice (p.iA 2) (S.I 2).length (p.ic 2), .slice (p.iA 3) (S.I 3).length (p.ic 3), .slice (p.iA 4) (S.I 4).length (p.ic 4), .slice (p.iA 5) (S.I 5).length (p.ic 5)])
def CapL (vs : List Value) : Prop := ∀ v ∈ vs, ∃ A n c, v = .slice A n c ∧ n ≤ c
structure CM (base g : Nat) (col : Nat → Nat) (w : World) (S : CnS) (p : CnP) : Prop where
  row : Part col 1 w (fun w => Row w g 116 (CCell S p).toArray)
  cg : col g = 1
  cb : ∀ x, x < base → col x = 0
  cn : ∀ x, w.heap.size ≤ x → col x = 0
  held : ∀ s, s < 2 → Part col 0 w (fun w => HeldU w (S.E s) (p.A s) (p.c s) (p.B s) (p.d s))
  way : ∀ s, s < 2 → ∃ vs, OwnK col (2 + s) w 44 1 (p.zA s) (S.Z s).length (p.zc s) vs ∧ MsgK col w vs (S.Z s) ∧ CapL vs
  ints : ∀ i, i < 6 → OwnK col (4 + i) w 3 1 (p.iA i) (S.I i).length (p.ic i) ((S.I i).map iv)
section
variable {base g k b j : Nat} {col : Nat → Nat} {w wA w2 w3 w' : World} {S : CnS} {p : CnP} {s i : Nat}
theorem CM.below (h : CM base g col w S p) (hb : Below w.heap.size w w') : CM base g col w' S p :=
  ⟨h.row.below hb, h.cg, h.cb, fun x hx => h.cn x (Nat.le_trans hb.size hx), fun s hs => (h.held s hs).below hb, fun s hs => by
    obtain ⟨vs, h1, h2, h3⟩ := h.way s hs
    exact ⟨vs, h1.below hb, h2.below hb, h3⟩, fun i hi => (h.ints i hi).below hb⟩
theorem CM.drew (h : CM base g col w S p) : CM base g col w.drew S p := h.below ((Below.refl _ _).drew)
theorem CM.lt (h : CM base g col w S p) : g < w.heap.size := h.row.now.lt
theorem CM.bg (h : CM base g col w S p) : base ≤ g := by
  rcases Nat.lt_or_ge g base with h1 | h1
  · have := h.cb g h1
    rw [h.cg] at this
    cases this
  · exact h1
theorem CM.white {wB : World} (h : CM base g col w S p) (hw : White col w w') (hB : Below base wB w) : Below base wB w' := hw.below_base h.cb (Nat.le_of_lt (Nat.lt_of_le_of_lt h.bg h.lt)) hB
theorem CM.putE (h : CM base g col w S p) (hs : s < 2) {e' : UE} {A B : Option Addr} {c d : Nat} (u : Upd w w' g) (hH : Part col 0 w (fun w => HeldU w e' A c B d))
    (hr : Row w' g 116 (CCell { S with E := upd S.E s e' } { p with A := upd p.A s A, c := upd p.c s c, B := upd p.B s B, d := upd p.d s d }).toArray) :
    CM base g col w' { S with E := upd S.E s e' } { p with A := upd p.A s A, c := upd p.c s c, B := upd p.B s B, d := upd p.d s d } := by
  have o := Only.upd u h.cg
  refine ⟨Part.row hr h.cg, h.cg, h.cb, fun x hx => h.cn x (by rw [← u.size]; exact hx), fun t ht => ?_, fun t ht => ?_, fun i hi => (h.ints i hi).upd u h.cg (by omega)⟩
  · by_cases e : t = s
    · subst e
      simp only [upd_self]
      exact hH.only o (by omega)
    · simp only [upd_other e]
      exact (h.held t ht).only o (by omega)
  · obtain ⟨vs, h1, h2, h3⟩ := h.way t ht
    exact ⟨vs, h1.upd u h.cg (by omega), h2.only o (by omega), h3⟩
theorem Grow.cm {row : Option Nat} (h : Grow g k b col wA w2 w3 row) (hM : CM base g col wA S p) : (∀ x, x < base → paint col b k x = 0) ∧ (∀ x, w3.heap.size ≤ x → paint col b k x = 0) := by
  refine ⟨fun x hx => ?_, fun x hx => ?_⟩
  · rw [paint_other]
    · exact hM.cb x hx
    · intro e
      subst e
      rcases h.bk with h1 | h1
      · have := hM.bg; have := hM.lt; omega
      · exact h.k0 (h1.symm.trans (hM.cb x hx))
  · have hs := h.u.size
    have h1 := h.bl
    have h2 := h.gr.size
    rw [paint_other (by omega)]
    exact hM.cn x (by omega)
theorem CapL.snoc {vs : List Value} {A : Option Addr} {n c : Nat} (h : CapL vs) (hc : n ≤ c) : CapL (vs ++ [.slice A n c]) := by
  intro v hv
  rcases List.mem_append.1 hv with hv | hv
  · exact h v hv
  · rw [List.mem_singleton.1 hv]
    exact ⟨A, n, c, rfl, hc⟩
theorem CM.appZ {row : Option Nat} (hM : CM base g col wA S p) (hs : s < 2) (h : Grow g (2 + s) b col wA w2 w3 row) {m : List UInt8} {vs : List Value} {A Am : Option Addr} {c cm : Nat} (hm : MsgK col wA vs (S.Z s)) (hv : CapL vs) (hcm : m.length ≤ cm) (hq : OwnQ w2 44 1 A ((S.Z s).length + 1) c (vs ++ [.slice Am m.length cm])) (hb : blk A = some b)
    (hI : Part col 0 wA (fun w => IsB w Am m.length m)) (hr : Row w3 g 116 (CCell { S with Z := upd S.Z s (S.Z s ++ [m]) } { p with zA := upd p.zA s A, zc := upd p.zc s c }).toArray) :
    CM base g (paint col b (2 + s)) w3 { S with Z := upd S.Z s (S.Z s ++ [m]) } { p with zA := upd p.zA s A, zc := upd p.zc s c } := by
  obtain ⟨h1, h2⟩ := h.cm hM
  refine ⟨Part.row hr h.cg', h.cg', h1, h2, fun t ht => h.part (hM.held t ht) (by omega) (by omega), fun t ht => ?_, fun i hi => h.own (hM.ints i hi) (by omega) (by omega)⟩
  by_cases e : t = s
  · subst e
    simp only [upd_self]
    refine ⟨vs ++ [.slice Am m.length cm], ?_, h.msg (hm.snoc hI), hv.snoc hcm⟩
    have := h.new hq hb
    simpa using this
  · simp only [upd_other e]
    obtain ⟨vs', h3, h4, h5⟩ := hM.way t ht
    exact ⟨vs', h.own h3 (by omega) (by omega), h.msg h4, h5⟩
theorem CM.appI {row : Option Nat} (hM : CM base g col wA S p) (hi : i < 6) (h : Grow g (4 + i) b col wA w2 w3 row) {x : Int} {A : Option Addr} {c : Nat} (hq : OwnQ w2 3 1 A ((S.I i).length + 1) c ((S.I i).map iv ++ [iv x])) (hb : blk A = some b)
    (hr : Row w3 g 116 (CCell { S with I := upd S.I i (S.I i ++ [x]) } { p with iA := upd p.iA i A, ic := upd p.ic i c }).toArray) :
    CM base g (paint col b (4 + i)) w3 { S with I := upd S.I i (S.I i ++ [x]) } { p with iA := upd p.iA i A, ic := upd p.ic i c } := by
  obtain ⟨h1, h2⟩ := h.cm hM
  refine ⟨Part.row hr h.cg', h.cg', h1, h2, fun t ht => h.part (hM.held t ht) (by omega) (by omega), fun t ht => ?_, fun t ht => ?_⟩
  · obtain ⟨vs', h3, h4, h5⟩ := hM.way t ht
    exact ⟨vs', h.own h3 (by omega) (by omega), h.msg h4, h5⟩
  · by_cases e : t = i
    · subst e
      simp only [upd_self]
      have := h.new hq hb
      simpa using this
    · simp only [upd_other e]
      exact h.own (hM.ints t ht) (by omega) (by omega)
theorem MsgK.tail {vs : List Value} {m : List UInt8} {q : List (List UInt8)} (h : MsgK col w vs (m :: q)) : MsgK col w (vs.drop 1) q := by
  refine ⟨by rw [List.length_drop, h.1]; simp, fun i hi => ?_⟩
  obtain ⟨A, c, e, hp⟩ := h.2 (i + 1) (by simp; omega)
  rw [List.getElem_cons_succ] at e hp
  exact ⟨A, c, by rw [List.getElem?_drop, Nat.add_comm]; exact e, hp⟩
theorem CM.tailZ (hM : CM base g col w S p) (hs : s < 2) {m : List UInt8} {zs : List (List UInt8)} {vs : List Value} (he : S.Z s = m :: zs) {A : Option Addr} {c : Nat} (u : Upd w w' g) (hA : blk A = blk (p.zA s)) (hm : MsgK col w vs (m :: zs)) (hv : CapL vs) (hq : OwnQ w 44 1 A zs.length c (vs.drop 1))
    (hr : Row w' g 116 (CCell { S with Z := upd S.Z s zs } { p with zA := upd p.zA s A, zc := upd p.zc s c }).toArray) :
    CM base g col w' { S with Z := upd S.Z s zs } { p with zA := upd p.zA s A, zc := upd p.zc s c } := by
  have o := Only.upd u hM.cg
  refine ⟨Part.row hr hM.cg, hM.cg, hM.cb, fun x hx => hM.cn x (by rw [← u.size]; exact hx), fun t ht => (hM.held t ht).only o (by omega), fun t ht => ?_, fun t ht => (hM.ints t ht).upd u hM.cg (by omega)⟩
  by_cases e : t = s
  · subst e
    simp only [upd_self]
    obtain ⟨vs', h1, -⟩ := hM.way t ht
    have hc : ∀ b, blk A = some b → col b = 2 + t := fun b hb => h1.blk b (by rw [← hA]; exact hb)
    exact ⟨vs.drop 1, ⟨(Part.own hq hc).only o (by omega), hc⟩, hm.tail.only o (by omega), fun v h => hv v (List.mem_of_mem_drop h)⟩
  · simp only [upd_other e]
    obtain ⟨vs', h1, h2, h3⟩ := hM.way t ht
    exact ⟨vs', h1.upd u hM.cg (by omega), h2.only o (by omega), h3⟩
theorem OwnQ.set {e : TypeId} {gi o n c : Nat} {xs : List Value} (h : OwnQ w e 1 (some ⟨gi, o, none⟩) n c xs) {k : Nat} (hk : k < n) (x : Value) : OwnQ (w.setCell ⟨gi, o + k, none⟩ x) e 1 (some ⟨gi, o, none⟩) n c (xs.set k x) := by
  refine ⟨by rw [List.length_set]; exact h.1, ?_⟩
  rcases h.2 with ⟨h1, _⟩ | ⟨g', o', cur, h1, hr, h2, h3, h4, h5⟩
  · cases h1
  · injection h1 with h1
    injection h1 with h1 h6 h7
    subst h1 h6
    refine .inr ⟨gi, o, _, rfl, hr.set (o + k) x, h2, h3, by simpa using h4, ?_⟩
    rw [← h5]
    simp only [Array.toList_setIfInBounds]
    rw [List.drop_set, if_neg (by omega), List.take_set, Nat.add_sub_cancel_left]
theorem CM.setI (hM : CM base g col w S p) (hi : i < 6) {gi o k : Nat} {x : Int} (hA : p.iA i = some ⟨gi, o, none⟩) (hk : k < (S.I i).length) : CM base g col (w.setCell ⟨gi, o + k, none⟩ (.int .i64 x)) { S with I := upd S.I i ((S.I i).set k x) } p := by
  have hown := hM.ints i hi
  have hcg : col gi = 4 + i := hown.blk gi (by rw [hA]; rfl)
  have u := Upd.setCell w gi (o + k) (.int .i64 x)
  have ok : Only col (4 + i) w (w.setCell ⟨gi, o + k, none⟩ (.int .i64 x)) := Only.upd u hcg
  have hq := hown.part.now
  rw [hA] at hq
  have hq2 := hq.set hk (.int .i64 x)
  have hlen : ∀ t, ((upd S.I i ((S.I i).set k x)) t).length = (S.I t).length := fun t => by
    by_cases e : t = i
    · subst e; rw [upd_self, List.length_set]
    · rw [upd_other e]
  have hC : CCell { S with I := upd S.I i ((S.I i).set k x) } p = CCell S p := by
    unfold CCell
    simp only [hlen]
  refine ⟨?_, hM.cg, hM.cb, fun x hx => hM.cn x (by rw [← u.size]; exact hx), fun t ht => (hM.held t ht).only ok (by omega), fun t ht => ?_, fun t ht => ?_⟩
  · rw [hC]; exact hM.row.only ok (by omega)
  · obtain ⟨vs', h1, h2, h3⟩ := hM.way t ht
    exact ⟨vs', ⟨h1.part.only ok (by omega), h1.blk⟩, h2.only ok (by omega), h3⟩
  · by_cases e : t = i
    · subst e
      simp only [upd_self]
      refine ⟨?_, hown.blk⟩
      rw [hA, List.length_set]
      have e2 : ((S.I t).set k x).map iv = ((S.I t).map iv).set k (.int .i64 x) := by rw [List.map_set]; rfl
      rw [e2]
      exact Part.own hq2 (fun b hb => hown.blk b (by rw [hA]; exact hb))
    · simp only [upd_other e]
      have h1 := hM.ints t ht
      exact ⟨h1.part.only ok (by omega), h1.blk⟩
end
theorem CM.cells {base g : Nat} {col : Nat → Nat} {w : World} {S : CnS} {p : CnP} (h : CM base g col w S p) :
    (w.cell? ⟨g, 12, none⟩ = some (.slice (p.zA 0) (S.Z 0).length (p.zc 0)) ∧ w.cell? ⟨g, 13, none⟩ = some (.slice (p.zA 1) (S.Z 1).length (p.zc 1)) ∧ w.cell? ⟨g, 14, none⟩ = some (.slice (p.iA 0) (S.I 0).length (p.ic 0)) ∧ w.cell? ⟨g, 15, none⟩ = some (.slice (p.iA 1) (S.I 1).length (p.ic 1)) ∧
     w.cell? ⟨g, 16, none⟩ = some (.slice (p.iA 2) (S.I 2).length (p.ic 2)) ∧ w.cell? ⟨g, 17, none⟩ = some (.slice (p.iA 3) (S.I 3).length (p.ic 3)) ∧ w.cell? ⟨g, 18, none⟩ = some (.slice (p.iA 4) (S.I 4).length (p.ic 4)) ∧ w.cell? ⟨g, 19, none⟩ = some (.slice (p.iA 5) (S.I 5).length (p.ic 5))) ∧ (∀ i, w.frozen? ⟨g, i, none⟩ = false) ∧
    w.rangeAt g 0 (UEV (S.E 0) (p.A 0) (p.c 0) (p.B 0) (p.d 0)).toList ∧ w.rangeAt g 6 (UEV (S.E 1) (p.A 1) (p.c 1) (p.B 1) (p.d 1)).toList := by
  have hr := h.row.now
  refine ⟨⟨hr.cell 12, hr.cell 13, hr.cell 14, hr.cell 15, hr.cell 16, hr.cell 17, hr.cell 18, hr.cell 19⟩, hr.frozen, fun j v hv => ?_, fun j v hv => ?_⟩
  · rw [Nat.zero_add, hr.cell]
    have hj : j < 6 := by have := (List.getElem?_eq_some_iff.1 hv).1; simpa [UEV] using this
    rw [List.getElem?_toArray]
    unfold CCell
    rw [List.getElem?_append_left (by simpa [UEV] using hj)]
    exact hv
  · rw [hr.cell]
    have hj : j < 6 := by have := (List.getElem?_eq_some_iff.1 hv).1; simpa [UEV] using this
    rw [List.getElem?_toArray]
    unfold CCell
    rw [List.getElem?_append_right (by simp [UEV]), List.getElem?_append_left (by simp [UEV]; omega)]
    have : 6 + j - (UEV (S.E 0) (p.A 0) (p.c 0) (p.B 0) (p.d 0)).toList.length = j := by simp [UEV]
    rw [this]
    exact hv
def CStep (base g : Nat) (col : Nat → Nat) (w : World) (S' : CnS) (en : Ending) (W' : World) : Prop := en = .returned (.bool true) ∧ ∃ col' p', CM base g col' W' S' p' ∧ White col w W' ∧ ∀ x, x < w.heap.size → Out (col x) → col' x = col x
theorem CStep.same {base g : Nat} {col : Nat → Nat} {w w' : World} {S : CnS} {p : CnP} (h : CM base g col w S p) (hb : Below w.heap.size w w') : CStep base g col w S (.returned (.bool true)) w' := ⟨rfl, col, p, h.below hb, White.below hb, fun _ _ _ => rfl⟩
end
section
set_option linter.unusedVariables false
theorem tmod_cases (v n : Int) (hn : 1 ≤ n) : (0 ≤ v.tmod n ∧ v.tmod n = v % n) ∨ (v.tmod n < 0 ∧ v.tmod n + n = v % n) := by
  have e := @Int.tmod_eq_emod v n
  have hb : (n.natAbs : Int) = n := Int.natAbs_of_nonneg (by omega)
  have m0 := Int.emod_nonneg v (show n ≠ 0 by omega)
  have m1 := Int.emod_lt_of_pos v (show 0 < n by omega)
  split at e <;> omega
theorem tmod_pos {v n : Int} (hn : 1 ≤ n) (h : 0 ≤ v.tmod n) : v.tmod n = v % n := by have := tmod_cases v n hn; omega
theorem tmod_neg {v n : Int} (hn : 1 ≤ n) (h : v.tmod n < 0) : v.tmod n + n = v % n := by have := tmod_cases v n hn; omega
theorem tmod_bd (v n : Int) (hn : 1 ≤ n) : -n ≤ v.tmod n ∧ v.tmod n < n := by
  have m0 := Int.emod_nonneg v (show n ≠ 0 by omega)
  have m1 := Int.emod_lt_of_pos v (show 0 < n by omega)
  have := tmod_cases v n hn; omega
end
section
open Go.RowKit
set_option linter.unusedVariables false
theorem ret_int {k : IntKind} {a b : Int} (h : a = b) : Ending.returned (.int k a) = .returned (.int k b) := by rw [h]
theorem ret_bool {a b : Bool} (h : a = b) : Ending.returned (.bool a) = .returned (.bool b) := by rw [h]
def True1 (W : World) (e : Ending) (W' : World) : Prop := e = .returned (.bool true) ∧ Below W.heap.size W W'
def vl (n : Int) : Bool := n == 2 || n == 4 || n == 8 || n == 16 || n == 32 || n == 64
theorem pow2_dec : ∀ m : Fin 65, 2 ≤ m.val → (m.val &&& (m.val - 1) == 0) = (m.val == 2 || m.val == 4 || m.val == 8 || m.val == 16 || m.val == 32 || m.val == 64) := by decide
theorem vl_and {n : Int} (h0 : 2 ≤ n) (h1 : n ≤ 64) : (bits .and .i64 n (n - 1) == 0) = vl n := by
  obtain ⟨m, rfl⟩ := Int.eq_ofNat_of_zero_le (show 0 ≤ n by omega)
  have e : ((m : Int) - 1) = ((m - 1 : Nat) : Int) := by omega
  rw [e, i64_and_nat m (m - 1) (by omega) (by omega)]
  have h := pow2_dec ⟨m, by omega⟩ (by simp; omega)
  simp only at h
  rw [Bool.eq_iff_iff] at h ⊢
  simp [vl] at h ⊢
  omega
theorem vl_range {n : Int} (h : vl n = true) : 2 ≤ n ∧ n ≤ 64 := by simp [vl] at h; omega
theorem vl_out {n : Int} (h : n < 2 ∨ 64 < n) : vl n = false := by simp [vl]; omega
theorem valid_lines (n : Int) (W : World) : Calls Try.prog 91 #[.int .i64 n] W fun e W' => e = .returned (.bool (vl n)) ∧ W = W' := by
  rcases (by omega : n < 2 ∨ 64 < n ∨ (2 ≤ n ∧ n ≤ 64)) with h | h | ⟨h1, h2⟩
  · go_enter Try.func91, Try.ntmps91
    go_wp2
    go_ret
    exact ⟨ret_bool (by rw [vl_out (by omega)]), rfl⟩
  · go_enter Try.func91, Try.ntmps91
    go_wp2
    go_ret
    exact ⟨ret_bool (by rw [vl_out (by omega)]), rfl⟩
  · go_enter Try.func91, Try.ntmps91
    go_wp2
    go_ret
    exact ⟨ret_bool (vl_and h1 h2), rfl⟩
def vs (n s a : Int) : Bool := vl n && decide (a ≤ s) && decide (s - a ≤ n) && decide (s ≤ 4611686018427387904)
structure Vs (n s a : Int) : Prop where
  vl : vl n = true
  n0 : 2 ≤ n
  n1 : n ≤ 64
  a0 : a ≤ s
  d : s - a ≤ n
  m : s ≤ 4611686018427387904
theorem vs_yes {n s a : Int} (h : vs n s a = true) : Vs n s a := by
  simp only [vs, Bool.and_eq_true, decide_eq_true_eq] at h
  obtain ⟨⟨⟨h1, h2⟩, h3⟩, h4⟩ := h
  exact ⟨h1, (vl_range h1).1, (vl_range h1).2, h2, h3, h4⟩
theorem vs_mk {n s a : Int} (h : Vs n s a) : vs n s a = true := by simp [vs, h.vl, h.a0, h.d, h.m]
def VsPost (n s a : Int) (W : World) (e : Ending) (W' : World) : Prop := e = .returned (.bool (vs n s a)) ∧ Below W.heap.size W W'
theorem valid_sender (n s a : Int) (hs : 0 ≤ s) (hs1 : s < 18446744073709551616) (ha : 0 ≤ a) (W : World) : Calls Try.prog 88 #[.agg #[.int .i64 n, .int .u64 s, .int .u64 a]] W (VsPost n s a W) := by
  cases hn : vl n
  · go_enter Try.func88, Try.ntmps88
    go_wp2_with (go_at_call 91; refine (valid_lines _ _).mono ?_; rintro e w' ⟨rfl, rfl⟩)
    go_ret
    exact ⟨ret_bool (by simp [vs, hn]), (Below.refl _ _).alloc (Nat.le_refl _) _⟩
  · obtain ⟨n0, n1⟩ := vl_range hn
    rcases (by omega : a ≤ s ∨ s < a) with h1 | h1
    · rcases (by omega : s - a ≤ n ∨ n < s - a) with h2 | h2
      · go_enter Try.func88, Try.ntmps88
        go_wp2_with (go_at_call 91; refine (valid_lines _ _).mono ?_; rintro e w' ⟨rfl, rfl⟩)
        go_ret
        exact ⟨ret_bool (by simp [vs, hn, h1, h2]), (Below.refl _ _).alloc (Nat.le_refl _) _⟩
      · go_enter Try.func88, Try.ntmps88
        go_wp2_with (go_at_call 91; refine (valid_lines _ _).mono ?_; rintro e w' ⟨rfl, rfl⟩)
        go_ret
        exact ⟨ret_bool (by simp [vs, hn]; omega), (Below.refl _ _).alloc (Nat.le_refl _) _⟩
    · go_enter Try.func88, Try.ntmps88
      go_wp2_with (go_at_call 91; refine (valid_lines _ _).mono ?_; rintro e w' ⟨rfl, rfl⟩)
      go_ret
      exact ⟨ret_bool (by simp [vs, hn]; omega), (Below.refl _ _).alloc (Nat.le_refl _) _⟩
theorem three_cells {w : World} {g : Nat} {t : TypeId} {a b c : Value} (h : Row w g t #[a, b, c]) :
    (w.cell? ⟨g, 0, none⟩ = some a ∧ w.cell? ⟨g, 1, none⟩ = some b ∧ w.cell? ⟨g, 2, none⟩ = some c) ∧ ∀ i, w.frozen? ⟨g, i, none⟩ = false :=
  ⟨⟨h.cell 0, h.cell 1, h.cell 2⟩, h.frozen⟩
def ep (n x : Int) : Bool := x / n % 2 == 0
theorem epoch (x n : Int) (h0 : 0 ≤ x) (h1 : x < 18446744073709551616) (n0 : 2 ≤ n) (n1 : n ≤ 64) (W : World) : Calls Try.prog 89 #[.int .u64 x, .int .i64 n] W fun e W' => e = .returned (.bool (ep n x)) ∧ W = W' := by
  have hq : 0 ≤ x / n := Int.ediv_nonneg h0 (by omega)
  go_enter Try.func89, Try.ntmps89
  go_wp2
  go_ret
  exact ⟨rfl, rfl⟩
def fr (n s a : Int) : Int := if vs n s a then n - (s - a) else 0
def FrPost (n s a : Int) (W : World) (e : Ending) (W' : World) : Prop := e = .returned (.int .i64 (fr n s a)) ∧ Below W.heap.size W W'
theorem free (n s a : Int) (hs : 0 ≤ s) (hs1 : s < 18446744073709551616) (ha : 0 ≤ a) (W : World) : Calls Try.prog 22 #[.agg #[.int .i64 n, .int .u64 s, .int .u64 a]] W (FrPost n s a W) := by
  cases hv : vs n s a
  · go_enter Try.func22, Try.ntmps22
    go_wp2_with (go_at_call 88; refine (valid_sender _ _ _ hs hs1 ha _).mono ?_; rintro e w' ⟨rfl, hb⟩)
    go_ret
    exact ⟨ret_int (by simp [fr, hv]), (one_new hb).2.2⟩
  · obtain ⟨_, n0, n1, h1, h2, h3⟩ := vs_yes hv
    go_enter Try.func22, Try.ntmps22
    go_wp2_with fail
    refine (valid_sender _ _ _ hs hs1 ha _).mono ?_
    rintro e w' ⟨rfl, hb⟩
    obtain ⟨r1, hz, hB⟩ := one_new hb
    obtain ⟨⟨c0, c1, c2⟩, f1⟩ := three_cells r1
    clear r1 hb
    go_wp2
    go_ret
    exact ⟨ret_int (by simp [fr, hv]), hB⟩
def mv (k a : Int) : Int := (k - a) % 65536
theorem mv_wrap (k a : Int) : IntKind.u64.wrap (IntKind.u16.wrap (k - IntKind.u16.wrap a)) = mv k a := by simp only [mv, IntKind.wrap_u64, IntKind.wrap_u16]; omega
def akOk (n s a k : Int) : Bool := vs n s a && decide (mv k a ≤ s - a)
def akE (n s a k : Int) : Int := if vs n s a then (if mv k a ≤ s - a then 0 else 66) else 74
def akN (n s a k : Int) : Int := if akOk n s a k then n else 0
def akS (n s a k : Int) : Int := if akOk n s a k then s else 0
def akA (n s a k : Int) : Int := if akOk n s a k then a + mv k a else 0
def AkPost (n s a k : Int) (W : World) (e : Ending) (W' : World) : Prop :=
  e = .returned (.tuple #[.agg #[.int .i64 (akN n s a k), .int .u64 (akS n s a k), .int .u64 (akA n s a k)], .int .i64 (akE n s a k)]) ∧ Below W.heap.size W W'
theorem ak_ret {n s a k x y z d : Int} {W W' : World} (hx : x = akN n s a k) (hy : y = akS n s a k) (hz : z = akA n s a k) (hd : d = akE n s a k) (hb : Below W.heap.size W W') :
    AkPost n s a k W (.returned (.tuple #[.agg #[.int .i64 x, .int .u64 y, .int .u64 z], .int .i64 d])) W' := ⟨by rw [hx, hy, hz, hd], hb⟩
set_option maxHeartbeats 1000000 in
theorem acknowledge (n s a k : Int) (hs : 0 ≤ s) (hs1 : s < 18446744073709551616) (ha : 0 ≤ a) (k0 : 0 ≤ k) (k1 : k < 65536) (W : World) :
    Calls Try.prog 21 #[.agg #[.int .i64 n, .int .u64 s, .int .u64 a], .int .u16 k] W (AkPost n s a k W) := by
  cases hv : vs n s a
  · go_enter Try.func21, Try.ntmps21
    go_wp2_with fail
    refine (valid_sender _ _ _ hs hs1 ha _).mono ?_
    rintro e w' ⟨rfl, hb⟩
    obtain ⟨r1, r2, hz, hB⟩ := two_new hb
    obtain ⟨⟨c0, c1, c2⟩, f1⟩ := three_cells r1
    obtain ⟨⟨d0, d1, d2⟩, f2⟩ := three_cells r2
    clear r1 r2 hb
    go_wp2
    refine bodyPost_ret (v := .tuple #[.agg #[.int .i64 0, .int .u64 0, .int .u64 0], .int .i64 74]) (by simp [results, Try.results21, go_sem, d0, d1, d2]) rfl ?_
    refine ak_ret (by simp [akN, akOk, hv]) (by simp [akS, akOk, hv]) (by simp [akA, akOk, hv]) (by simp [akE, hv]) ?_
    exact ((hB.setCell (by simp) _).setCell (by simp) _).setCell (by simp) _
  · obtain ⟨_, n0, n1, h1, h2, h3⟩ := vs_yes hv
    have hm := mv_wrap k a
    have m0 : 0 ≤ mv k a := by unfold mv; omega
    have m1 : mv k a < 65536 := by unfold mv; omega
    rcases (by omega : mv k a ≤ s - a ∨ s - a < mv k a) with h4 | h4
    · have H := Lib.hid (show akOk n s a k = true by simp [akOk, hv, h4])
      have H2 := Lib.hid (show akE n s a k = 0 by simp [akE, hv, h4])
      go_enter Try.func21, Try.ntmps21
      go_wp2_with fail
      refine (valid_sender _ _ _ hs hs1 ha _).mono ?_
      rintro e w' ⟨rfl, hb⟩
      obtain ⟨r1, r2, hz, hB⟩ := two_new hb
      obtain ⟨⟨c0, c1, c2⟩, f1⟩ := three_cells r1
      obtain ⟨⟨d0, d1, d2⟩, f2⟩ := three_cells r2
      clear r1 r2 hb
      go_wp2
      refine bodyPost_ret (v := .tuple #[.agg #[.int .i64 n, .int .u64 s, .int .u64 (a + mv k a)], .int .i64 0]) (by simp [results, Try.results21, go_sem, d0, d1, d2]) rfl ?_
      refine ak_ret (by simp [akN, H.out]) (by simp [akS, H.out]) (by simp [akA, H.out]) (by rw [H2.out]) ?_
      exact (((hB.setCell (by simp) _).setCell (by simp) _).setCell (by simp) _).setCell (by simp) _
    · have H := Lib.hid (show akOk n s a k = false by simp [akOk, hv]; omega)
      have H2 := Lib.hid (show akE n s a k = 66 by simp [akE, hv]; omega)
      go_enter Try.func21, Try.ntmps21
      go_wp2_with fail
      refine (valid_sender _ _ _ hs hs1 ha _).mono ?_
      rintro e w' ⟨rfl, hb⟩
      obtain ⟨r1, r2, hz, hB⟩ := two_new hb
      obtain ⟨⟨c0, c1, c2⟩, f1⟩ := three_cells r1
      obtain ⟨⟨d0, d1, d2⟩, f2⟩ := three_cells r2
      clear r1 r2 hb
      go_wp2
      refine bodyPost_ret (v := .tuple #[.agg #[.int .i64 0, .int .u64 0, .int .u64 0], .int .i64 66]) (by simp [results, Try.results21, go_sem, d0, d1, d2]) rfl ?_
      refine ak_ret (by simp [akN, H.out]) (by simp [akS, H.out]) (by simp [akA, H.out]) (by rw [H2.out]) ?_
      exact ((hB.setCell (by simp) _).setCell (by simp) _).setCell (by simp) _
def nsE (n : Int) : Int := if vl n then 0 else 6
def nsN (n : Int) : Int := if vl n then n else 0
def NsPost (n : Int) (W : World) (e : Ending) (W' : World) : Prop :=
  e = .returned (.tuple #[.agg #[.int .i64 (nsN n), .int .u64 0, .int .u64 0], .int .i64 (nsE n)]) ∧ Below W.heap.size W W'
theorem new_sender (n : Int) (W : World) : Calls Try.prog 27 #[.int .i64 n] W (NsPost n W) := by
  cases hn : vl n
  · go_enter Try.func27, Try.ntmps27
    go_wp2_with (go_at_call 91; refine (valid_lines _ _).mono ?_; rintro e w' ⟨rfl, rfl⟩)
    refine bodyPost_ret (v := .tuple #[.agg #[.int .i64 0, .int .u64 0, .int .u64 0], .int .i64 6]) (by simp [results, Try.results27, go_sem]) rfl ⟨by simp [nsE, nsN, hn], ?_⟩
    go_grown
  · go_enter Try.func27, Try.ntmps27
    go_wp2_with (go_at_call 91; refine (valid_lines _ _).mono ?_; rintro e w' ⟨rfl, rfl⟩)
    refine bodyPost_ret (v := .tuple #[.agg #[.int .i64 n, .int .u64 0, .int .u64 0], .int .i64 0]) (by simp [results, Try.results27, go_sem]) rfl ⟨by simp [nsE, nsN, hn], ?_⟩
    go_grown
end
section
open Go.RowKit
set_option linter.unusedVariables false
theorem placeU (v n : Int) (h1 : 1 ≤ n) (h2 : n ≤ 4611686018427387904) (W : World) : Calls Try.prog 20 #[.int .i64 v, .int .i64 n] W fun e W' => e = .returned (.int .i64 (v % n)) ∧ W = W' := by
  obtain ⟨t1, t2⟩ := tmod_bd v n h1
  go_enter Try.func20, Try.ntmps20
  go_wp2
  · go_ret
    exact ⟨ret_int (tmod_neg h1 (by assumption)), rfl⟩
  · go_ret
    exact ⟨ret_int (tmod_pos h1 (by assumption)), rfl⟩
theorem White.stepU {col col1 : Nat → Nat} {w wr w' : World} (h : White col w wr) (hc : ∀ x, x < w.heap.size → Out (col x) → col1 x = col x) (h2 : White col1 wr w') : White col w w' :=
  ⟨h2.os.trans h.os, h2.tape.trans h.tape, h2.output.trans h.output, Nat.le_trans h.size h2.size, fun x hx h0 => (h2.block x (Nat.lt_of_lt_of_le hx h.size) (by rw [hc x hx h0]; exact h0)).trans (h.block x hx h0)⟩
theorem info_44u : (Try.prog.info? 44).map (fun i => (i.zero, i.size, i.bytes)) = some (some (.slice none 0 0), 1, 24) := by kernel_rfl
section
variable {P : Program} {a : Act} {w : World} {typ : TypeId} {pos : String} {after : Array Edge}
theorem wp_put_midU {ops : Array Oper} {rest : List Oper} {Q : Exit → Act → World → Prop} {ty : TypeId} {x y : Operand} {g off : Nat} {t : TypeId} {pre cs post : List Value} {L : Array Value} (hrow : Row w g t (pre ++ cs ++ post).toArray) (ho : off = pre.length) (hs : cs.length = L.size) (hn : (P.info? ty).map (·.size) = some L.size)
    (h1 : L.all (·.oneCell') = true) (hx : a.eval x = .pointer (some ⟨g, off, none⟩)) (hy : a.eval y = .agg L) (h : ∀ w', Upd w w' g → Row w' g t (pre ++ L.toList ++ post).toArray → wpList P ops Q rest (a.put none undef) w') :
    wpList P ops Q ({ dst := none, op := .store ty x y, type := typ, pos := pos, after := after, guard := none } :: rest) a w := by
  subst ho
  have ht : w.there g pre.length L.size := fun j hj => by
    refine ⟨?_, hrow.frozen _⟩
    rw [hrow.cell]
    simp; omega
  refine wpList_store_mid (op := { dst := none, op := .store ty x y, type := typ, pos := pos, after := after, guard := none }) rfl ty x y rfl g pre.length L hx hy ht hn h1 ?_
  exact h _ (Upd.setCells g _ w _) (Row.setCells (g := g) (t := t) L.toList w pre post cs hrow (by simpa using hs))
end
theorem IsN.of_same {w w' : World} {A : Option Addr} {n : Nat} {bs : List Int} (h : IsN w A n bs) (hb : ∀ b o, A = some ⟨b, o, none⟩ → 0 < n → w'.heap[b]? = w.heap[b]?) : IsN w' A n bs := by
  refine ⟨h.1, fun hn => ?_⟩
  obtain ⟨b, o, e, hc⟩ := h.2 hn
  exact ⟨b, o, e, fun j hj => (World.cell?_of_block (w := w) (a := ⟨b, o + j, none⟩) (hb b o e hn)).trans (hc j hj)⟩
theorem Part.ownU {col : Nat → Nat} {w : World} {lo : Nat} {e : UE} {A B : Option Addr} {c d : Nat} (h : OwnU w lo e A c B d) (hc : ∀ x, lo ≤ x → col x = 0) (l1 : e.cs.length ≤ 1000) (l2 : e.ss.length ≤ 1000) : Part col 0 w (fun w => HeldU w e A c B d) := fun w' hs hk =>
  ⟨h.a.isB.of_same fun b o e h0 => by
      obtain ⟨g, hA, hg, hl, -⟩ := OwnN.form h.a h0
      rw [hA] at e
      injection e with e
      injection e with e1 e2 e3
      subst e1
      exact hk _ hl (hc _ hg),
    h.b.isB.of_same fun b o e h0 => by
      obtain ⟨g, hA, hg, hl, -⟩ := OwnN.form h.b h0
      rw [hA] at e
      injection e with e
      injection e with e1 e2 e3
      subst e1
      exact hk _ hl (hc _ hg), l1, l2⟩
theorem Part.msgU {col : Nat → Nat} {w : World} {g n : Nat} {bs : List UInt8} (h : IsB w (some ⟨g, 0, none⟩) n bs) (hc : col g = 0) : Part col 0 w (fun w => IsB w (some ⟨g, 0, none⟩) n bs) := fun w' hs hk =>
  h.of_same fun b o e h0 => by
    injection e with e
    injection e with e1 e2 e3
    subst e1
    obtain ⟨b', o', e', hl, -⟩ := h.at_ h0
    injection e' with e'
    injection e' with e1 e2 e3
    subst e1
    exact hk _ hl hc
def UR (w : World) (b : Nat) : Prop := ∃ e A c B d, Row w b 112 (UEV e A c B d)
structure G7 (w w' : World) : Prop where
  k : Keeps [112] w w'
  b : ∀ g x, w.cell? ⟨g, 0, none⟩ = some (.int .u8 x) → w'.heap[g]? = w.heap[g]?
  u : ∀ b, UR w b → UR w' b
theorem G7.refl (w : World) : G7 w w := ⟨Keeps.refl _ _, fun _ _ _ => rfl, fun _ h => h⟩
theorem G7.below {w w' : World} (h : Below w.heap.size w w') : G7 w w' := ⟨Keeps.below h, fun g x hx => h.block g (block_lt_of_cell hx), fun b ⟨e, A, c, B, d, hr⟩ => ⟨e, A, c, B, d, hr.below h hr.lt⟩⟩
theorem G7.put {w w' : World} {b : Nat} {e : UE} {A B : Option Addr} {c d : Nat} (h : UR w b) (u : Upd w w' b) (hr : Row w' b 112 (UEV e A c B d)) : G7 w w' := by
  obtain ⟨e0, A0, c0, B0, d0, r0⟩ := h
  refine ⟨Keeps.upd u r0 (by simp), fun g x hx => u.block g (fun h => ?_), fun b' h' => ?_⟩
  · subst h
    rw [r0.cell] at hx
    simp [UEV] at hx
  · by_cases hb : b' = b
    · subst hb
      exact ⟨e, A, c, B, d, hr⟩
    · obtain ⟨e1, A1, c1, B1, d1, r1⟩ := h'
      exact ⟨e1, A1, c1, B1, d1, r1.upd u hb⟩
def PtrU (base : Nat) (u : Value) (w : World) : Prop := ∃ b, u = .pointer (some ⟨b, 0, none⟩) ∧ base ≤ b ∧ UR w b
theorem PtrU.mono {base : Nat} (u : Value) (w w' : World) (hg : G7 w w') (h : PtrU base u w) : PtrU base u w' := by
  obtain ⟨b, h1, h2, h3⟩ := h
  exact ⟨b, h1, h2, hg.u b h3⟩
def WdV (base : Nat) (v : Int) (u : Value) (w : World) : Prop := ∃ g, u = .slice (some ⟨g, 0, none⟩) 2 2 ∧ OwnB w base 5 (some ⟨g, 0, none⟩) 2 2 (wdB v)
theorem WdV.mono {base : Nat} {v : Int} (u : Value) (w w' : World) (hg : G7 w w') (h : WdV base v u w) : WdV base v u w' := by
  obtain ⟨g, h1, h2⟩ := h
  exact ⟨g, h1, h2.keeps hg.k (by decide)⟩
def MsV (base : Nat) (bs : List UInt8) (u : Value) (w : World) : Prop := ∃ g, u = .slice (some ⟨g, 0, none⟩) bs.length bs.length ∧ base ≤ g ∧ IsB w (some ⟨g, 0, none⟩) bs.length bs
theorem MsV.mono {base : Nat} {bs : List UInt8} (u : Value) (w w' : World) (hg : G7 w w') (h : MsV base bs u w) : MsV base bs u w' := by
  obtain ⟨g, h1, h2, h3⟩ := h
  refine ⟨g, h1, h2, h3.of_same fun b o e h0 => ?_⟩
  injection e with e
  injection e with e1 e2 e3
  subst e1
  obtain ⟨b', o', e', hc⟩ := h3.2 h0
  injection e' with e'
  injection e' with e1 e2 e3
  subst e1 e2
  exact hg.b g _ (hc 0 (by omega))
def EnV (base : Nat) (e9 : UE) (u : Value) (w : World) : Prop := ∃ A c B d, u = .agg (UEV e9 A c B d) ∧ OwnU w base e9 A c B d
theorem EnV.mono {base : Nat} {e9 : UE} (u : Value) (w w' : World) (hg : G7 w w') (h : EnV base e9 u w) : EnV base e9 u w' := by
  obtain ⟨A, c, B, d, h1, h2⟩ := h
  exact ⟨A, c, B, d, h1, h2.keeps hg.k (by decide)⟩
def C4V (base : Nat) (e9 : UE) (x : Int) (bs : List UInt8) (u : Value) (w : World) : Prop := ∃ A c B d g, u = .tuple #[.agg (UEV e9 A c B d), .int .i64 x, .slice (some ⟨g, 0, none⟩) bs.length bs.length, .int .i64 0] ∧ OwnU w base e9 A c B d ∧ base ≤ g ∧ IsB w (some ⟨g, 0, none⟩) bs.length bs
theorem C4V.mono {base : Nat} {e9 : UE} {x : Int} {bs : List UInt8} (u : Value) (w w' : World) (hg : G7 w w') (h : C4V base e9 x bs u w) : C4V base e9 x bs u w' := by
  obtain ⟨A, c, B, d, g, h1, h2, h3, h4⟩ := h
  obtain ⟨g', e, -, h5⟩ := MsV.mono (base := base) (.slice (some ⟨g, 0, none⟩) bs.length bs.length) w w' hg ⟨g, rfl, h3, h4⟩
  injection e with e
  injection e with e
  injection e with e1 e2 e3
  subst e1
  exact ⟨A, c, B, d, g, h1, h2.keeps hg.k (by decide), h3, h5⟩
def C3V (base : Nat) (e9 : UE) (bs : List UInt8) (u : Value) (w : World) : Prop := ∃ A c B d g, u = .tuple #[.agg (UEV e9 A c B d), .slice (some ⟨g, 0, none⟩) bs.length bs.length, .int .i64 0] ∧ OwnU w base e9 A c B d ∧ base ≤ g ∧ IsB w (some ⟨g, 0, none⟩) bs.length bs
theorem C3V.mono {base : Nat} {e9 : UE} {bs : List UInt8} (u : Value) (w w' : World) (hg : G7 w w') (h : C3V base e9 bs u w) : C3V base e9 bs u w' := by
  obtain ⟨A, c, B, d, g, h1, h2, h3, h4⟩ := h
  obtain ⟨g', e, -, h5⟩ := MsV.mono (base := base) (.slice (some ⟨g, 0, none⟩) bs.length bs.length) w w' hg ⟨g, rfl, h3, h4⟩
  injection e with e
  injection e with e
  injection e with e1 e2 e3
  subst e1
  exact ⟨A, c, B, d, g, h1, h2.keeps hg.k (by decide), h3, h5⟩
def CaS (w0 : World) (e9 : UE) (ia : Nat) (c : Nat) (us : Nat → Value) (w : World) : Prop := Below w0.heap.size w0 w ∧ (1 ≤ c → ∃ g8 A c B d, us ia = .pointer (some ⟨g8, 0, none⟩) ∧ w0.heap.size ≤ g8 ∧ Row w g8 112 (UEV e9 A c B d) ∧ OwnU w w0.heap.size e9 A c B d)
theorem CaS.loc {w0 : World} {e9 : UE} {ia is : Nat} {ops : Array Oper} (hw : waits (opOf ops is) ia = true) : ∀ c us us' w', (∀ k, mayAt ops [is] c k = false ∨ k ∈ [is].take c → us k = us' k) → CaS w0 e9 ia c us w' → CaS w0 e9 ia c us' w' := by
  intro c us us' w' hk ⟨a, b⟩
  refine ⟨a, fun hc => ?_⟩
  rw [← hk ia (.inl (mayAt_no (d := 0) hw (by omega) (by simp)))]
  exact b hc
def ZaS (w0 : World) (c : Nat) (us : Nat → Value) (w : World) : Prop := Below w0.heap.size w0 w
theorem ZaS.loc {w0 : World} {is : Nat} {ops : Array Oper} : ∀ c us us' w', (∀ k, mayAt ops [is] c k = false ∨ k ∈ [is].take c → us k = us' k) → ZaS w0 c us w' → ZaS w0 c us' w' := fun _ _ _ _ _ h => h
theorem OwnU.lower {w : World} {lo lo' : Nat} {e : UE} {A B : Option Addr} {c d : Nat} (h : OwnU w lo e A c B d) (hl : lo' ≤ lo) : OwnU w lo' e A c B d := ⟨h.a.lower hl, h.b.lower hl, h.ap⟩
set_option maxRecDepth 100000 in
set_option maxHeartbeats 4000000 in
theorem word_is (v : Int) (h0 : 0 ≤ v) (h1 : v ≤ 65535) (W : World) : Calls Try.prog 118 #[.int .i64 v] W (fun en W' => ∃ u, en = .returned u ∧ WdV W.heap.size v u W' ∧ Below W.heap.size W W') := by
  have HE := Lib.hid (show (#[.int .u8 (v % 256), .int .u8 (v / 256)] : Array Value) = ((wdB v).map bv).toArray by
    simp [wdB, bv, UInt8.toNat_ofNat']
    omega)
  go_enter Try.func118, Try.ntmps118
  go_wp2
  rw [HE.out]
  go_ret
  refine ⟨_, rfl, ⟨W.heap.size, rfl, OwnB.of_row (bs := wdB v) (Row.born W 5 _) (Nat.le_refl _) (by rw [wdB_len]; decide)⟩, (Below.refl W.heap.size W).alloc (Nat.le_refl _) _⟩
set_option maxRecDepth 100000 in
set_option maxHeartbeats 4000000 in
theorem number_is (A : Option Addr) (n c : Nat) (b : List UInt8) (W : World) (hA : IsB W A n b) : Calls Try.prog 133 #[.slice A n c] W (fun en W' => en = .returned (.int .i64 (wdN b)) ∧ Below W.heap.size W W') := by
  obtain rfl := hA.1
  go_enter Try.func133, Try.ntmps133
  by_cases h2 : b.length = 2
  · match b, h2 with
    | [x, y], _ =>
      obtain ⟨g, o, rfl, hlt, hc⟩ := hA.at_ (by simp)
      have c0 : W.cell? ⟨g, o, none⟩ = some (.int .u8 x.toNat) := hc 0 (by simp)
      have c1 : W.cell? ⟨g, o + 1, none⟩ = some (.int .u8 y.toNat) := hc 1 (by simp)
      have hx := x.toNat_lt
      have hy := y.toNat_lt
      have w0 : IntKind.i64.wrap (x.toNat : Int) = x.toNat := by rw [IntKind.wrap_i64]; omega
      have w1 : IntKind.i64.wrap (y.toNat : Int) = y.toNat := by rw [IntKind.wrap_i64]; omega
      have w2 : IntKind.i64.wrap (256 * (y.toNat : Int)) = 256 * (y.toNat : Int) := by rw [IntKind.wrap_i64]; omega
      have w3 : IntKind.i64.wrap ((x.toNat : Int) + 256 * (y.toNat : Int)) = (x.toNat : Int) + 256 * (y.toNat : Int) := by rw [IntKind.wrap_i64]; omega
      have HN := Lib.hid (show wdN [x, y] = (x.toNat : Int) + 256 * (y.toNat : Int) from rfl)
      go_upto_region 3 with (fail)
      have c0 : W.drew.cell? ⟨g, o, none⟩ = some (.int .u8 x.toNat) := c0
      have c1 : W.drew.cell? ⟨g, o + 1, none⟩ = some (.int .u8 y.toNat) := c1
      refine wp_region_told (n := 16) (fun w' => w' = W.drew) (fun _ _ => True) (by kernel_rfl) (by kernel_rfl) (by rfl) rfl ?_
      repeat (first | (refine walk_pure (v := ?_) (fun _ => trivial) (fun _ => rfl) ?_ ?_; rotate_left; (focus (intro us w9 hS9 hF; subst hS9; clear hF; go_simp; (try with_reducible rfl); done)); simp only [Act.put, zA, zB, zC, Nat.reduceAdd]) | (refine walk_skip (fun _ => trivial) (fun _ => rfl) ?_; simp only [Act.put, zA, zB, zC, Nat.reduceAdd]))
      refine walk_done fun us w9 hS9 hF => ?_
      subst hS9
      clear hF
      go_wp2
      go_ret
      exact ⟨by rw [HN.out]; rfl, (Below.refl _ _).drew⟩
  · have hn : wdN b = -1 := by unfold wdN; rw [if_neg h2]
    have d1 : ((b.length : Int) != 2) = true := nt (by omega)
    have HN := Lib.hid hn
    clear hn h2
    go_wp2
    go_ret
    exact ⟨by rw [HN.out]; rfl, Below.refl _ _⟩
end
end Go.Proofs.Ythjkhambmgepdaa
