/- Memory in colours; the wire between two ends, in plain words and in memory. -/
import Derived.Test.YthjkhambmgepdaaMb
import Derived.Test.YthjkhambmgepdaaMd
import Derived.ArgAppend
import Derived.Test.YthjkhambmgepdaaMe
namespace Go.Proofs.Ythjkhambmgepdaa
open Go
set_option linter.unusedVariables false
section
open Go.RowKit
/-- Only blocks of colour k have changed; there may be new ones. -/
structure Only (col : Nat → Nat) (k : Nat) (w w' : World) : Prop where
  os : w'.os = w.os
  tape : w'.tape = w.tape
  output : w'.output = w.output
  size : w.heap.size ≤ w'.heap.size
  block : ∀ x, x < w.heap.size → col x ≠ k → w'.heap[x]? = w.heap[x]?
/-- Blocks of colour 0 are as they were. -/
structure White (col : Nat → Nat) (w w' : World) : Prop where
  os : w'.os = w.os
  tape : w'.tape = w.tape
  output : w'.output = w.output
  size : w.heap.size ≤ w'.heap.size
  block : ∀ x, x < w.heap.size → col x = 0 → w'.heap[x]? = w.heap[x]?
/-- P holds, and goes on to hold as long as the blocks of colour k stay. -/
def Part (col : Nat → Nat) (k : Nat) (w : World) (P : World → Prop) : Prop := ∀ w', w.heap.size ≤ w'.heap.size → (∀ x, x < w.heap.size → col x = k → w'.heap[x]? = w.heap[x]?) → P w'
/-- Block b has colour k. -/
def paint (col : Nat → Nat) (b k : Nat) : Nat → Nat := fun x => if x = b then k else col x
theorem paint_self (col : Nat → Nat) (b k : Nat) : paint col b k b = k := if_pos rfl
theorem paint_other {col : Nat → Nat} {b k x : Nat} (h : x ≠ b) : paint col b k x = col x := if_neg h
section
variable {col : Nat → Nat} {k j b : Nat} {w w' a c : World} {P Q : World → Prop}
theorem Part.now (h : Part col k w P) : P w := h w (Nat.le_refl _) fun _ _ _ => rfl
theorem Part.only (h : Part col k w P) (o : Only col j w w') (hj : j ≠ k) : Part col k w' P := fun w2 hs hb => h w2 (Nat.le_trans o.size hs) fun x hx hc => (hb x (Nat.lt_of_lt_of_le hx o.size) hc).trans (o.block x hx (fun e => hj (e.symm.trans hc)))
theorem Part.below (h : Part col k w P) (hb : Below w.heap.size w w') : Part col k w' P := fun w2 hs hk => h w2 (Nat.le_trans hb.size hs) fun x hx hc => (hk x (Nat.lt_of_lt_of_le hx hb.size) hc).trans (hb.block x hx)
theorem Part.paint (h : Part col k w P) (hb : w.heap.size ≤ b ∨ col b = j) (hj : j ≠ k) : Part (paint col b j) k w P := fun w2 hs hk => h w2 hs fun x hx hc => hk x hx (by
  rw [paint_other]
  · exact hc
  · intro e
    subst e
    rcases hb with hb | hb
    · omega
    · exact hj (hb.symm.trans hc))
theorem Part.mono (h : Part col k w P) (hPQ : ∀ w, P w → Q w) : Part col k w Q := fun w2 hs hk => hPQ _ (h w2 hs hk)
theorem Only.below (hb : Below w.heap.size w w') : Only col k w w' := ⟨hb.os, hb.tape, hb.output, hb.size, fun x hx _ => hb.block x hx⟩
theorem Only.upd {g : Nat} (u : Upd w w' g) (hg : col g = k) : Only col k w w' := ⟨u.os, u.tape, u.output, Nat.le_of_eq u.size.symm, fun x hx hc => u.block x fun e => hc (by rw [e]; exact hg)⟩
theorem Only.grown {row : Option Nat} (h : w.grownBy w' row) (hr : ∀ b, row = some b → col b = k) : Only col k w w' := ⟨h.os, h.tape, h.output, h.size, fun x hx hc => h.block x hx fun e => hc (hr x e.symm)⟩
theorem Only.paint (h : Only col k w w') (hb : w.heap.size ≤ b ∨ col b = k) : Only (paint col b k) k w w' := ⟨h.os, h.tape, h.output, h.size, fun x hx hc => h.block x hx (by
  by_cases e : x = b
  · subst e
    rw [paint_self] at hc
    exact absurd rfl hc
  · rwa [paint_other e] at hc)⟩
theorem Only.trans (h : Only col k a w) (h2 : Only col k w c) : Only col k a c := ⟨h2.os.trans h.os, h2.tape.trans h.tape, h2.output.trans h.output, Nat.le_trans h.size h2.size, fun x hx hc => (h2.block x (Nat.lt_of_lt_of_le hx h.size) hc).trans (h.block x hx hc)⟩
theorem Only.white (h : Only col k w w') (hk : k ≠ 0) : White col w w' := ⟨h.os, h.tape, h.output, h.size, fun x hx hc => h.block x hx (by omega)⟩
theorem White.refl (col : Nat → Nat) (w : World) : White col w w := ⟨rfl, rfl, rfl, Nat.le_refl _, fun _ _ _ => rfl⟩
theorem White.below (hb : Below w.heap.size w w') : White col w w' := ⟨hb.os, hb.tape, hb.output, hb.size, fun x hx _ => hb.block x hx⟩
theorem White.trans (h : White col a w) (h2 : White col w c) : White col a c := ⟨h2.os.trans h.os, h2.tape.trans h.tape, h2.output.trans h.output, Nat.le_trans h.size h2.size, fun x hx hc => (h2.block x (Nat.lt_of_lt_of_le hx h.size) hc).trans (h.block x hx hc)⟩
/-- Behind a change of colours that leaves the white ones white. -/
theorem White.of {col' : Nat → Nat} (h : White col' w w') (hc : ∀ x, x < w.heap.size → col x = 0 → col' x = 0) : White col w w' := ⟨h.os, h.tape, h.output, h.size, fun x hx h0 => h.block x hx (hc x hx h0)⟩
theorem White.below_base {base : Nat} (h : White col w w') (hb : ∀ x, x < base → col x = 0) (hs : base ≤ w.heap.size) {W : World} (hB : Below base W w) : Below base W w' :=
  ⟨h.os.trans hB.os, h.tape.trans hB.tape, h.output.trans hB.output, Nat.le_trans hB.size h.size, fun x hx => (h.block x (Nat.lt_of_lt_of_le hx hs) (hb x hx)).trans (hB.block x hx)⟩
theorem Part.row {g : Nat} {t : TypeId} {cs : Array Value} (h : Row w g t cs) (hg : col g = k) : Part col k w (fun w => Row w g t cs) := fun w2 hs hb => (hb g h.lt hg).trans h
theorem Part.held {lo hi : Nat} {e : LE} {A B : Option Addr} {c d : Nat} (h : HeldI w lo hi e A c B d) (hc : ∀ x, lo ≤ x → x < hi → col x = k) : Part col k w (fun w => Held w e A c B d) := fun w2 hs hb => h.2 w2 fun g h1 h2 => hb g (Nat.lt_of_lt_of_le h2 h.1) (hc g h1 h2)
theorem IsB.of_same {A : Option Addr} {n : Nat} {bs : List UInt8} (h : IsB w A n bs) (hb : ∀ b o, A = some ⟨b, o, none⟩ → 0 < n → w'.heap[b]? = w.heap[b]?) : IsB w' A n bs := by
  refine ⟨h.1, fun hn => ?_⟩
  obtain ⟨b, o, e, hc⟩ := h.2 hn
  exact ⟨b, o, e, fun j hj => (World.cell?_of_block (w := w) (a := ⟨b, o + j, none⟩) (hb b o e hn)).trans (hc j hj)⟩
end
/-- A slice's block. -/
def blk (A : Option Addr) : Option Nat := A.map (·.block)
/-- A queue of the call's own: the slice may begin inside its row. -/
def OwnQ (w : World) (e : TypeId) (size : Nat) (A : Option Addr) (n c : Nat) (xs : List Value) : Prop :=
  xs.length = n * size ∧ ((A = none ∧ n = 0 ∧ c = 0) ∨ ∃ g o cur, A = some ⟨g, o, none⟩ ∧ Row w g e cur ∧ n ≤ c ∧ c ≤ maxLen ∧ o + c * size ≤ cur.size ∧ (cur.toList.drop o).take (n * size) = xs)
theorem OwnQ.nil (w : World) (e : TypeId) (size : Nat) : OwnQ w e size none 0 0 [] := ⟨by simp, .inl ⟨rfl, rfl, rfl⟩⟩
theorem OwnQ.cap {w : World} {e : TypeId} {size : Nat} {A : Option Addr} {n c : Nat} {xs : List Value} (h : OwnQ w e size A n c xs) : n ≤ c := by
  rcases h.2 with ⟨_, h1, h2⟩ | ⟨g, o, cur, _, _, h1, _⟩
  · omega
  · exact h1
theorem OwnQ.lt {w : World} {e : TypeId} {size : Nat} {A : Option Addr} {n c : Nat} {xs : List Value} (h : OwnQ w e size A n c xs) : ∀ b, blk A = some b → b < w.heap.size := by
  intro b hb
  rcases h.2 with ⟨h1, _⟩ | ⟨g, o, cur, h1, hr, _⟩
  · rw [h1] at hb; cases hb
  · rw [h1] at hb
    injection hb with hb
    subst hb
    exact hr.lt
theorem OwnQ.of_same {w w' : World} {e : TypeId} {size : Nat} {A : Option Addr} {n c : Nat} {xs : List Value} (h : OwnQ w e size A n c xs) (hb : ∀ b, blk A = some b → w'.heap[b]? = w.heap[b]?) : OwnQ w' e size A n c xs := by
  refine ⟨h.1, ?_⟩
  rcases h.2 with h1 | ⟨g, o, cur, h1, hr, h2⟩
  · exact .inl h1
  · exact .inr ⟨g, o, cur, h1, (hb g (by rw [h1]; rfl)).trans hr, h2⟩
theorem Part.own {col : Nat → Nat} {k : Nat} {w : World} {e : TypeId} {size : Nat} {A : Option Addr} {n c : Nat} {xs : List Value} (h : OwnQ w e size A n c xs) (hc : ∀ b, blk A = some b → col b = k) : Part col k w (fun w => OwnQ w e size A n c xs) :=
  fun w2 hs hb => h.of_same fun b h1 => hb b (h.lt b h1) (hc b h1)
theorem OwnQ.of_row {w : World} {base size : Nat} {e : TypeId} {A : Option Addr} {n c : Nat} {xs : List Value} (h : OwnV w base e size A n c xs) : OwnQ w e size A n c xs := by
  refine ⟨h.1, ?_⟩
  rcases h.2 with ⟨h1, h2⟩ | ⟨g, cap, cur, h1, _, hg, h3, h4, h5, h6⟩
  · injection h1 with h1 h3 h4
    exact .inl ⟨h1, h2, h4⟩
  · injection h1 with h1 h2 h7
    subst h1 h7
    exact .inr ⟨g, 0, cur, rfl, hg, h3, h4, by omega, by simpa using h6⟩
/-- The cells of the queue. -/
theorem OwnQ.cells {w : World} {e : TypeId} {size : Nat} {A : Option Addr} {n c : Nat} {xs : List Value} (h : OwnQ w e size A n c xs) (hn : 0 < n) : ∃ g o cur, A = some ⟨g, o, none⟩ ∧ Row w g e cur ∧ ∀ j u, xs[j]? = some u → w.cell? ⟨g, o + j, none⟩ = some u := by
  rcases h.2 with ⟨_, h1, _⟩ | ⟨g, o, cur, h1, hr, _, _, _, h2⟩
  · omega
  · refine ⟨g, o, cur, h1, hr, fun j u hu => ?_⟩
    rw [hr.cell]
    rw [← h2, List.getElem?_take] at hu
    split at hu
    · simpa [List.getElem?_drop] using hu
    · cases hu
theorem OwnQ.frozen {w : World} {e : TypeId} {size : Nat} {g o n c : Nat} {xs : List Value} (h : OwnQ w e size (some ⟨g, o, none⟩) n c xs) (i : Nat) : w.frozen? ⟨g, i, none⟩ = false := by
  rcases h.2 with ⟨h1, _⟩ | ⟨g', o', cur, h1, hr, _⟩
  · cases h1
  · injection h1 with h1
    injection h1 with h1 h2 h3
    subst h1
    exact hr.frozen i
/-- The queue without its first element. -/
theorem OwnQ.tail {w : World} {e : TypeId} {size g o n c : Nat} {xs : List Value} (h : OwnQ w e size (some ⟨g, o, none⟩) n c xs) (hn : 0 < n) : OwnQ w e size (some ⟨g, o + size, none⟩) (n - 1) (c - 1) (xs.drop size) := by
  rcases h.2 with ⟨h1, _⟩ | ⟨g', o', cur, h1, hr, h2, h3, h4, h5⟩
  · cases h1
  · injection h1 with h1
    injection h1 with h1 h6 h7
    subst h1 h6
    obtain ⟨m, rfl⟩ : ∃ m, n = m + 1 := ⟨n - 1, by omega⟩
    obtain ⟨d, rfl⟩ : ∃ d, c = d + 1 := ⟨c - 1, by omega⟩
    have hl := h.1
    rw [Nat.add_mul, Nat.one_mul] at hl h4
    refine ⟨by simp [hl], .inr ⟨g, o + size, cur, rfl, hr, by omega, by omega, by simp; omega, ?_⟩⟩
    rw [← h5, List.drop_take, List.drop_drop]
    congr 1
    simp [Nat.add_mul]
theorem OwnQ.tail0 {w : World} {e : TypeId} {size g o : Nat} {xs : List Value} (h : OwnQ w e size (some ⟨g, o, none⟩) 1 1 xs) : OwnQ w e size (some ⟨g, o, none⟩) 0 0 (xs.drop size) := by
  rcases h.2 with ⟨h1, _⟩ | ⟨g', o', cur, h1, hr, h2, h3, h4, h5⟩
  · cases h1
  · injection h1 with h1
    injection h1 with h1 h6 h7
    subst h1 h6
    have hl := h.1
    refine ⟨by rw [List.length_drop]; omega, .inr ⟨g, o, cur, rfl, hr, by omega, by omega, by omega, ?_⟩⟩
    rw [List.drop_of_length_le (l := xs) (by omega)]
    simp
section
variable {P : Program} {K : Act → World → Prop} {Q : Exit → Act → World → Prop} {a : Act} {w : World} {dst : Option Tmp} {typ : TypeId} {pos : String} {after : Array Edge}
/-- One element is appended. -/
theorem append_q {t ty e : TypeId} {zv : Value} {size bytes n c gb : Nat} {A : Option Addr} {xs news : List Value} (ht : P.underlying t = some (.slice e)) (hinfo : (P.info? e).map (fun i => (i.zero, i.size, i.bytes)) = some (some zv, size, bytes))
    (hzs : zv.cells.size = size) (hsz : 0 < size) (h : OwnQ w e size A n c xs) (hnew : Row w gb e news.toArray) (hnl : news.length = size) (h1 : ∀ u ∈ news, u.oneCell' = true)
    (hlen : (n + 1) * bytes ≤ 140737488355328) (hn : n + 1 ≤ 140737488355328) :
    ∃ A' c'' w', (Builtin.append_ #[t, t] ty #[.slice A n c, .slice (some ⟨gb, 0, none⟩) 1 1]).run P w = .ok (.slice A' (n + 1) c'') w' ∧ OwnQ w' e size A' (n + 1) c'' (xs ++ news) ∧ w.grownBy w' (blk A) ∧ ∃ b, blk A' = some b ∧ (blk A = some b ∨ w.heap.size ≤ b) := by
  have hnews : ∀ j u, news[j]? = some u → w.cell? ((⟨gb, 0, none⟩ : Addr).add j) = some u := fun j u hu => by
    have : (⟨gb, 0, none⟩ : Addr).add j = ⟨gb, j, none⟩ := by rw [Addr.add_mid, Nat.zero_add]
    rw [this, hnew.cell j]
    simpa using hu
  rcases h.2 with ⟨rfl, rfl, rfl⟩ | ⟨g, o, cur, rfl, hr, h2, h3, h4, h5⟩
  · obtain rfl : xs = [] := List.eq_nil_of_length_eq_zero (by simpa using h.1)
    obtain ⟨A', c'', w', hrun, k1, k2, k3⟩ := append_v (P := P) (ty := ty) (base := w.heap.size) ht hinfo hzs hsz (OwnV.nil w w.heap.size e size) hnew hnl h1 hlen hn (Nat.le_refl _)
    refine ⟨A', c'', w', hrun, OwnQ.of_row k1, k2, ?_⟩
    obtain ⟨g, rfl, hg1, hg2⟩ := k1.form (by omega)
    rcases k3 with k3 | k3
    · cases k3
    · injection k3 with k3
      exact ⟨w.heap.size, by show some g = _; rw [← k3], .inr (Nat.le_refl _)⟩
  · obtain ⟨i, hi, hz⟩ := Option.map_eq_some_iff.1 hinfo
    simp only [Prod.mk.injEq] at hz
    obtain ⟨hz0, hz1, hz2⟩ := hz
    by_cases hroom : n + 1 ≤ c
    · have hfit : o + n * size + size ≤ cur.size := by
        have := Nat.mul_le_mul_right size hroom
        rw [Nat.add_mul, Nat.one_mul] at this
        omega
      have hrun := run_append_room_cells (P := P) w t ty e i ht hi g o n c ⟨gb, 0, none⟩ 1 1 news (by rw [hz1]; omega) hnews h1 hroom
        (fun j hj => by rw [hr.cell, hz1]; simp; omega) (fun j hj => hr.frozen _)
      rw [hz1] at hrun
      refine ⟨_, _, _, hrun, ⟨by simp [h.1, hnl, Nat.add_mul], .inr ⟨g, o, ((cur.toList.take (o + n * size)) ++ news ++ (cur.toList.drop (o + n * size + size))).toArray, rfl, ?_, hroom, h3, ?_, ?_⟩⟩, ?_, ⟨g, rfl, .inl rfl⟩⟩
      · have hr' : Row w g e (cur.toList.take (o + n * size) ++ (cur.toList.drop (o + n * size)).take size ++ cur.toList.drop (o + n * size + size)).toArray := by
          have e2 : (cur.toList.drop (o + n * size)).take size ++ cur.toList.drop (o + n * size + size) = cur.toList.drop (o + n * size) := by
            rw [← List.drop_drop (l := cur.toList) (i := size) (j := o + n * size), List.take_append_drop]
          rw [List.append_assoc, e2, List.take_append_drop]
          exact hr
        have hs := Row.setCells (g := g) (t := e) news w _ _ _ hr' (by simp; omega)
        have hl : (cur.toList.take (o + n * size)).length = o + n * size := by simp; omega
        rw [hl] at hs
        exact hs
      · simp
        have := Nat.mul_le_mul_right size hroom
        omega
      · simp only [List.append_assoc]
        rw [List.drop_append_of_le_length (by simp; omega), List.drop_take, Nat.add_sub_cancel_left, h5, ← List.append_assoc]
        have hl : (n + 1) * size = (xs ++ news).length := by simp [h.1, hnl, Nat.add_mul]
        rw [hl, List.take_left]
      · have u := Upd.setCells g news w (o + n * size)
        exact ⟨u.os, u.tape, u.output, Nat.le_of_eq u.size.symm, fun x hx hk => u.block x fun e => hk (by rw [e]; rfl)⟩
    · obtain ⟨v', w', hrun, k1, k2⟩ := run_append_arg_grows (P := P) w t ty e i zv size bytes ht hi hz0 hz1 hz2 hzs hsz ⟨g, o, none⟩ n c xs h.1 (fun j u hu => by
        rw [Addr.add_mid, hr.cell]
        rw [← h5, List.getElem?_take] at hu
        split at hu
        · simpa [List.getElem?_drop] using hu
        · cases hu) ⟨gb, 0, none⟩ 1 1 news (by omega) hnews (by omega) (by simp only [maxLen]; omega) hlen
      rcases k1.2 with ⟨rfl, hn0⟩ | ⟨g2, cap, cur2, rfl, hb, rest⟩
      · omega
      · refine ⟨_, _, _, hrun, OwnQ.of_row k1, ⟨k2.os, k2.tape, k2.output, k2.size, fun x hx _ => k2.block x hx (by simp)⟩, ⟨g2, rfl, .inr hb⟩⟩
theorem step_append_q {s x : Operand} {t e : TypeId} {zv : Value} {size bytes n c gb : Nat} {A : Option Addr} {xs news : List Value} (ht : P.underlying t = some (.slice e)) (hinfo : (P.info? e).map (fun i => (i.zero, i.size, i.bytes)) = some (some zv, size, bytes))
    (hzs : zv.cells.size = size) (hsz : 0 < size) (h : OwnQ w e size A n c xs) (hnew : Row w gb e news.toArray) (hnl : news.length = size) (h1 : ∀ u ∈ news, u.oneCell' = true)
    (hlen : (n + 1) * bytes ≤ 140737488355328) (hn : n + 1 ≤ 140737488355328) (hs : a.eval s = .slice A n c) (hx : a.eval x = .slice (some ⟨gb, 0, none⟩) 1 1)
    (hK : ∀ A' c'' w' b, OwnQ w' e size A' (n + 1) c'' (xs ++ news) → w.grownBy w' (blk A) → blk A' = some b → (blk A = some b ∨ w.heap.size ≤ b) → K (a.put dst (.slice A' (n + 1) c'')) w') :
    Oper.wp P { dst := dst, op := .call { callee := .builtin .append, args := #[s, x], argTypes := #[t, t] }, type := typ, pos := pos, after := after, guard := none } a w K Q := by
  obtain ⟨A', c'', w', hr, h2, h3, b, h4, h5⟩ := append_q (P := P) (ty := typ) ht hinfo hzs hsz h hnew hnl h1 hlen hn
  unfold Oper.wp execOp
  simp only [resolve, invoke, builtin, Sem.run_bind, Sem.run_pure, Result.andThen_ok, List.map_toArray, List.map_cons, List.map_nil, hs, hx, hr]
  exact hK _ _ _ b h2 h3 h4 h5
end
end
section
open Go.RowKit
theorem partOk_yes {want : Int} {pt : List UInt8} (h : partOk want pt = true) : (want = -1 ∧ pt = []) ∨ (want ≤ 1048576 ∧ 52 ≤ (pt.length : Int) ∧ (pt.length : Int) < want ∧ ((pt.length : Int) - 52) % 56 = 0) := by
  unfold partOk at h
  by_cases hw : want = -1
  · rw [if_pos hw] at h
    exact .inl ⟨hw, List.eq_nil_of_length_eq_zero (by simpa using h)⟩
  · rw [if_neg hw, Bool.and_eq_true, decide_eq_true_eq] at h
    have := cutB_yes h.2
    exact .inr ⟨h.1, this⟩
theorem cutB_mk {k n : Int} (h1 : 52 ≤ k) (h2 : k < n) (h3 : (k - 52) % 56 = 0) : cutB k n = true := by simp [cutB, h1, h2, h3]
theorem partOk_mk {want : Int} {pt : List UInt8} (h0 : want ≤ 1048576) (h1 : 52 ≤ (pt.length : Int)) (h2 : (pt.length : Int) < want) (h3 : ((pt.length : Int) - 52) % 56 = 0) : partOk want pt = true := by
  unfold partOk
  rw [if_neg (by omega), decide_eq_true h0, cutB_mk h1 h2 h3]
  rfl
theorem vE_mk {e : LE} (h : VE e) : vE e = true := by
  have h1 : qOk e.q = true := by
    unfold qOk
    rw [List.all_eq_true]
    intro m hm
    have := h.qm m hm
    simp [this]
  have h2 : offOk e.off e.q = true := by
    unfold offOk
    rcases h.off with h | ⟨h3, h4, h5, h6⟩
    · simp [h]
    · have := cutB_mk h4 h5 h6
      unfold frM at this
      rw [this]
      simp [h3]
  have h3 := h.vs
  have h4 := h.vr
  have h5 := h.part
  have h6 := h.same
  have h7 := h.ql
  have h8 := h.told
  simp only [vE, soundB, compB, h1, h2, h3, h4, h5, Bool.and_eq_true, decide_eq_true_eq, beq_iff_eq]
  exact ⟨⟨⟨⟨⟨trivial, h7⟩, trivial⟩, trivial⟩, ⟨⟨trivial, h8⟩, trivial⟩⟩, h6⟩
/-- A valid end whose counters are not negative. -/
structure Gd (e : LE) : Prop where
  v : vE e = true
  a : 0 ≤ e.a
  t : 0 ≤ e.told
theorem Gd.ve {e : LE} (h : Gd e) : VE e := vE_yes h.v
theorem vr_le {n x : Int} (h : vr n x = true) : x ≤ 4611686018427387904 := by simp [vr] at h; exact h.2
theorem vr_mk {n x : Int} (h : vl n = true) (h2 : x ≤ 4611686018427387904) : vr n x = true := by simp [vr, h, h2]
theorem Gd.ty {e : LE} (h : Gd e) : e.ty := by
  have hv := h.ve
  have hs := vs_yes hv.vs
  have hr := vr_le hv.vr
  have h0 := h.a
  have h1 := h.t
  have h2 := hv.told
  have h3 := hs.a0
  have h4 := hs.m
  have hp := partOk_yes hv.part
  have ho : -1 ≤ e.off ∧ e.off ≤ 1048576 := by
    rcases hv.off with h | ⟨h5, h6, h7, _⟩
    · omega
    · have := hv.qm _ (frM_mem h5)
      omega
  have hw : -1 ≤ e.want ∧ e.want ≤ 1048576 ∧ e.pt.length ≤ 1048576 := by
    rcases hp with ⟨h5, h6⟩ | ⟨h5, h6, h7, _⟩
    · rw [h6]; simp; omega
    · omega
  have hql := hv.ql
  refine ⟨by omega, by omega, by omega, by omega, by omega, by omega, by omega, by omega, by omega, by omega, by omega, by omega, by omega, fun m hm => ?_, by omega⟩
  have := hv.qm m hm
  omega
/-- The line that Next gives. -/
def nxn (e : LE) : Ln := if nxGo e = true then ⟨1, ep e.n e.s, decide (e.off < 0), (frP e).length, acN e.rn e.rc, frP e ++ z56.drop (frP e).length⟩ else ⟨2, false, false, 0, acN e.rn e.rc, z56⟩
theorem nxn_v {e : LE} (h : nxE e = 0) : nxV e = (nxn e).v := by
  unfold nxV nxn
  rw [if_pos h]
  split <;> rfl
theorem acN_range (n x : Int) : 0 ≤ acN n x ∧ acN n x < 65536 := by
  unfold acN
  split
  · rw [IntKind.wrap_u16]; omega
  · omega
theorem z56_all : ∀ x ∈ z56, x = 0 := by
  intro x hx
  exact (List.mem_replicate.1 hx).2
theorem nxn_ok {e : LE} (h : VE e) : (nxn e).ok := by
  have ha := acN_range e.rn e.rc
  unfold nxn
  split
  · next hg =>
    have h0 : 0 < e.q.length := by simp [nxGo] at hg; exact hg.1
    have := frP_len h h0
    refine ⟨?_, ha.1, ha.2⟩
    simp [z56]
    omega
  · exact ⟨z56_len, ha.1, ha.2⟩
theorem nxGo_q {e : LE} (h : nxGo e = true) : 0 < e.q.length ∧ 0 < fr e.n e.s e.a := by simpa [nxGo, List.length_pos_iff] using h
theorem nxn_e {e : LE} (h : VE e) : lnE (nxn e).k (nxn e).e (nxn e).f (nxn e).n (nxn e).p = 0 := by
  unfold nxn
  split
  · next hg =>
    have h0 := (nxGo_q hg).1
    have hp := frP_len h h0
    have h1 : lnOk1 1 ((frP e).length : Int) = true := by simp [lnOk1]; omega
    have h2 : lnOk2 1 (ep e.n e.s) (decide (e.off < 0)) ((frP e).length : Int) (frP e ++ z56.drop (frP e).length) = true := by
      simp only [lnOk2, clr, Int.toNat_natCast, List.drop_left]
      have : (z56.drop (frP e).length).all (· == 0) = true := by
        rw [List.all_eq_true]
        intro x hx
        rw [z56_all x (List.mem_of_mem_drop hx)]
        rfl
      rw [this]
      rfl
    unfold lnE
    rw [h1, h2]
    rfl
  · rfl
/-- A receiver's state: what has come. -/
structure RS where
  (rc want : Int) (pt : List UInt8) (got : Nat)
def RS.le (n : Int) (r : RS) : LE := ⟨n, 0, 0, n, r.rc, [], -1, r.want, r.pt, 0⟩
def rsOf (e : LE) (T : Nat) : RS := ⟨e.rc, e.want, e.pt, T⟩
def rsStep (n : Int) (r : RS) (l : Ln) : RS := if l.k = 1 then (if acE (r.le n) l.f l.n l.p = true then ⟨r.rc + 1, -1, [], r.got + 1⟩ else ⟨r.rc + 1, acW (r.le n) l.f l.p, acP (r.le n) l.f l.n l.p, r.got⟩) else r
/-- The line is one that is due, and where it ends a message, that is the next one. -/
structure Fit (n : Int) (V : List (List UInt8)) (r : RS) (l : Ln) : Prop where
  ok : l.ok
  e : lnE l.k l.e l.f l.n l.p = 0
  d : l.k = 1 → acD (r.le n) l.e l.f l.n l.p = true
  m : l.k = 1 → acE (r.le n) l.f l.n l.p = true → V[r.got]? = some (acP (r.le n) l.f l.n l.p)
def Run (n : Int) (V : List (List UInt8)) : RS → List Ln → RS → Prop
  | r, [], r' => r = r'
  | r, l :: ls, r' => Fit n V r l ∧ Run n V (rsStep n r l) ls r'
theorem Run.snoc {n : Int} {V : List (List UInt8)} {l : Ln} : ∀ {ls : List Ln} {r r' : RS}, Run n V r ls r' → Fit n V r' l → Run n V r (ls ++ [l]) (rsStep n r' l)
  | [], r, r', h, hf => by
    have h : r = r' := h
    subst h
    exact ⟨hf, rfl⟩
  | k :: ls, r, r', h, hf => ⟨h.1, Run.snoc h.2 hf⟩
theorem Run.more {n : Int} {V : List (List UInt8)} {m : List UInt8} : ∀ {ls : List Ln} {r r' : RS}, Run n V r ls r' → Run n (V ++ [m]) r ls r'
  | [], r, r', h => h
  | k :: ls, r, r', h => ⟨⟨h.1.ok, h.1.e, h.1.d, fun h1 h2 => by
    have := h.1.m h1 h2
    rw [List.getElem?_append_left (List.getElem?_eq_some_iff.1 this).1]
    exact this⟩, Run.more h.2⟩
theorem rsStep_rc (n : Int) (r : RS) (l : Ln) : r.rc ≤ (rsStep n r l).rc ∧ r.got ≤ (rsStep n r l).got := by
  unfold rsStep
  split
  · split <;> exact ⟨by simp only; omega, by simp only; omega⟩
  · exact ⟨Int.le_refl _, Nat.le_refl _⟩
theorem Run.le {n : Int} {V : List (List UInt8)} : ∀ {ls : List Ln} {r r' : RS}, Run n V r ls r' → r.rc ≤ r'.rc ∧ r.got ≤ r'.got
  | [], r, r', h => by
    have h : r = r' := h
    subst h
    exact ⟨Int.le_refl _, Nat.le_refl _⟩
  | k :: ls, r, r', h => by
    have h1 := rsStep_rc n r k
    have h2 := Run.le h.2
    exact ⟨Int.le_trans h1.1 h2.1, Nat.le_trans h1.2 h2.2⟩
/-- The sender stands where the receiver will when all has come. -/
structure Sync (x : LE) (V : List (List UInt8)) (r : RS) : Prop where
  rc : r.rc = x.s
  got : r.got ≤ V.length
  q : x.q = V.drop r.got
  st : (x.off = -1 ∧ r.want = -1 ∧ r.pt = []) ∨ (52 ≤ x.off ∧ (x.off - 52) % 56 = 0 ∧ 0 < x.q.length ∧ x.off < (frM x).length ∧ r.want = (frM x).length ∧ r.pt = (frM x).take x.off.toNat)
theorem leN_fixB (v : Nat) : ∀ s, leN (fixB v s) = v % 256 ^ s
  | 0 => by simp [fixB, leN, Nat.mod_one]
  | s + 1 => by
    rw [fixB_snoc, leN_snoc, leN_fixB v s, fixB_len, u8_ofNat (Nat.mod_lt _ (by omega))]
    rw [Nat.pow_succ, Nat.mod_mul]
    rw [Nat.mul_comm (256 ^ s)]
theorem drop_cons {V q : List (List UInt8)} {k : Nat} (h : q = V.drop k) (h0 : 0 < q.length) : V[k]? = some (q.headD []) ∧ q.tail = V.drop (k + 1) ∧ k < V.length := by
  have hk : k < V.length := by rw [h, List.length_drop] at h0; omega
  have e := List.drop_eq_getElem_cons hk
  rw [← h] at e
  refine ⟨?_, ?_, hk⟩
  · rw [e, List.getElem?_eq_getElem hk]; rfl
  · rw [e]; rfl
theorem take_pad {a b : List UInt8} {n : Nat} (h : n ≤ a.length) : (a ++ b).take n = a.take n := by
  rw [List.take_append_of_le_length h]
theorem sync_first {x : LE} {V : List (List UInt8)} {r : RS} (h : Gd x) (hs : Sync x V r) (hg : nxGo x = true) (ho : x.off = -1) (hw : r.want = -1) (hp : r.pt = []) : Fit x.n V r (nxn x) ∧ Sync (nxG x) V (rsStep x.n r (nxn x)) := by
  have hv := h.ve
  obtain ⟨h0, hf⟩ := nxGo_q hg
  have hq := drop_cons hs.q h0
  have hm1 : (frM x).length ≤ 1048576 := hv.qm _ (frM_mem h0)
  have hP : frP x = fixB (frM x).length 4 ++ (frM x).take 52 := by unfold frP; rw [if_pos (by omega)]
  have hPl : (frP x).length = 4 + min (frM x).length 52 := by rw [hP]; simp [fixB_len]; omega
  have hS : frS x = min (frM x).length 52 := by unfold frS; rw [if_pos (by omega)]
  have hN : nxn x = ⟨1, ep x.n x.s, true, (frP x).length, acN x.rn x.rc, frP x ++ z56.drop (frP x).length⟩ := by
    unfold nxn
    rw [if_pos hg, decide_eq_true (by omega : x.off < 0)]
  have hH : acH (frP x ++ z56.drop (frP x).length) = (frM x).length := by
    unfold acH
    rw [hP, List.append_assoc, List.take_append_of_le_length (by rw [fixB_len]; omega), List.take_of_length_le (by rw [fixB_len]; omega), leN_fixB]
    omega
  have hB : acB true ((frP x).length : Int) (frP x ++ z56.drop (frP x).length) = (frM x).take 52 := by
    unfold acB
    rw [if_pos rfl, Int.toNat_natCast, List.take_left, hP, List.drop_append_of_le_length (by rw [fixB_len]; omega)]
    rw [List.drop_of_length_le (by rw [fixB_len]; omega)]
    rfl
  have hPP : acP (r.le x.n) true ((frP x).length : Int) (frP x ++ z56.drop (frP x).length) = (frM x).take 52 := by
    unfold acP
    rw [hB]
    simp [RS.le, hp]
  have hWW : acW (r.le x.n) true (frP x ++ z56.drop (frP x).length) = ((frM x).length : Int) := by
    unfold acW
    rw [if_pos rfl, hH]
  have hD : acD (r.le x.n) (ep x.n x.s) true ((frP x).length : Int) (frP x ++ z56.drop (frP x).length) = true := by
    unfold acD
    rw [hH]
    simp only [RS.le, hs.rc, hw, if_true, hPl]
    simp
    omega
  have hE : acE (r.le x.n) true ((frP x).length : Int) (frP x ++ z56.drop (frP x).length) = nxEnd x := by
    unfold acE nxEnd
    rw [hPP, hWW, hS]
    simp only [List.length_take]
    rw [Bool.eq_iff_iff]
    simp
    omega
  have hfull : nxEnd x = true → (frM x).take 52 = frM x := by
    intro he
    unfold nxEnd at he
    rw [hS, beq_iff_eq] at he
    exact List.take_of_length_le (by omega)
  refine ⟨⟨nxn_ok hv, nxn_e hv, fun _ => ?_, fun _ he => ?_⟩, ?_⟩
  · rw [hN]; exact hD
  · rw [hN] at he ⊢
    simp only at he ⊢
    rw [hE] at he
    rw [hPP, hfull he]
    exact hq.1
  · have hstep : rsStep x.n r (nxn x) = if nxEnd x = true then ⟨r.rc + 1, -1, [], r.got + 1⟩ else ⟨r.rc + 1, ((frM x).length : Int), (frM x).take 52, r.got⟩ := by
      unfold rsStep
      rw [hN]
      simp only [if_true, hE, hWW, hPP]
    rw [hstep]
    by_cases he : nxEnd x = true
    · rw [if_pos he]
      refine ⟨by simp [nxG, hs.rc], hq.2.2, by simp [nxG, he, hq.2.1], .inl ⟨by simp [nxG, he], rfl, rfl⟩⟩
    · have hne : ¬ frS x = (frM x).length := by unfold nxEnd at he; simpa using he
      have hl : 52 < (frM x).length := by omega
      have h52 : frS x = 52 := by omega
      have e1 : nxG x = { x with s := x.s + 1, off := 52, told := x.rc } := by unfold nxG; rw [if_neg he, if_neg he, h52]; rfl
      rw [if_neg he, e1]
      refine ⟨by simp [hs.rc], hs.got, hs.q, .inr ⟨by simp, by simp, h0, ?_, rfl, rfl⟩⟩
      show (52 : Int) < (frM x).length
      omega
theorem sync_on {x : LE} {V : List (List UInt8)} {r : RS} (h : Gd x) (hs : Sync x V r) (hg : nxGo x = true) (ho : 52 ≤ x.off) (hc : (x.off - 52) % 56 = 0) (hlt : x.off < (frM x).length) (hw : r.want = (frM x).length) (hp : r.pt = (frM x).take x.off.toNat) :
    Fit x.n V r (nxn x) ∧ Sync (nxG x) V (rsStep x.n r (nxn x)) := by
  have hv := h.ve
  obtain ⟨h0, hf⟩ := nxGo_q hg
  have hq := drop_cons hs.q h0
  have hm1 : (frM x).length ≤ 1048576 := hv.qm _ (frM_mem h0)
  have hP : frP x = ((frM x).drop x.off.toNat).take 56 := by unfold frP; rw [if_neg (by omega)]
  have hPl : (frP x).length = min ((frM x).length - x.off.toNat) 56 := by rw [hP]; simp; omega
  have hS : frS x = min (frM x).length (x.off.toNat + 56) := by unfold frS; rw [if_neg (by omega)]
  have hN : nxn x = ⟨1, ep x.n x.s, false, (frP x).length, acN x.rn x.rc, frP x ++ z56.drop (frP x).length⟩ := by
    unfold nxn
    rw [if_pos hg, decide_eq_false (by omega : ¬ x.off < 0)]
  have hptl : r.pt.length = x.off.toNat := by rw [hp]; simp; omega
  have hB : acB false ((frP x).length : Int) (frP x ++ z56.drop (frP x).length) = ((frM x).drop x.off.toNat).take 56 := by
    unfold acB
    rw [if_neg (by simp), Int.toNat_natCast, List.take_left, hP]
  have hPP : acP (r.le x.n) false ((frP x).length : Int) (frP x ++ z56.drop (frP x).length) = (frM x).take (x.off.toNat + 56) := by
    unfold acP
    rw [hB]
    simp only [RS.le, hp]
    rw [List.take_add]
  have hWW : acW (r.le x.n) false (frP x ++ z56.drop (frP x).length) = ((frM x).length : Int) := by
    unfold acW
    rw [if_neg (by simp)]
    exact hw
  have hD : acD (r.le x.n) (ep x.n x.s) false ((frP x).length : Int) (frP x ++ z56.drop (frP x).length) = true := by
    have h1 : (((frM x).length : Int) == -1) = false := by rw [beq_eq_false_iff_ne]; omega
    unfold acD
    simp only [RS.le, hs.rc, hw, hptl, h1]
    simp
    omega
  have hE : acE (r.le x.n) false ((frP x).length : Int) (frP x ++ z56.drop (frP x).length) = nxEnd x := by
    unfold acE nxEnd
    rw [hPP, hWW, hS]
    simp only [List.length_take]
    rw [Bool.eq_iff_iff]
    simp
    omega
  have hfull : nxEnd x = true → (frM x).take (x.off.toNat + 56) = frM x := by
    intro he
    unfold nxEnd at he
    rw [hS, beq_iff_eq] at he
    exact List.take_of_length_le (by omega)
  refine ⟨⟨nxn_ok hv, nxn_e hv, fun _ => ?_, fun _ he => ?_⟩, ?_⟩
  · rw [hN]; exact hD
  · rw [hN] at he ⊢
    simp only at he ⊢
    rw [hE] at he
    rw [hPP, hfull he]
    exact hq.1
  · have hstep : rsStep x.n r (nxn x) = if nxEnd x = true then ⟨r.rc + 1, -1, [], r.got + 1⟩ else ⟨r.rc + 1, ((frM x).length : Int), (frM x).take (x.off.toNat + 56), r.got⟩ := by
      unfold rsStep
      rw [hN]
      simp only [if_true, hE, hWW, hPP]
    rw [hstep]
    by_cases he : nxEnd x = true
    · rw [if_pos he]
      refine ⟨by simp [nxG, hs.rc], hq.2.2, by simp [nxG, he, hq.2.1], .inl ⟨by simp [nxG, he], rfl, rfl⟩⟩
    · have hne : ¬ frS x = (frM x).length := by unfold nxEnd at he; simpa using he
      have hl : x.off.toNat + 56 < (frM x).length := by omega
      have h52 : frS x = x.off.toNat + 56 := by omega
      have e0 : ((x.off.toNat + 56 : Nat) : Int) = x.off + 56 := by omega
      have e1 : nxG x = { x with s := x.s + 1, off := x.off + 56, told := x.rc } := by unfold nxG; rw [if_neg he, if_neg he, h52, e0]
      rw [if_neg he, e1]
      refine ⟨by simp [hs.rc], hs.got, hs.q, .inr ⟨by show 52 ≤ x.off + 56; omega, by show (x.off + 56 - 52) % 56 = 0; omega, h0, ?_, rfl, ?_⟩⟩
      · show x.off + 56 < ((frM x).length : Int)
        omega
      · show (frM x).take (x.off.toNat + 56) = (frM x).take (x.off + 56).toNat
        congr 1
        omega
theorem sync_next {x : LE} {V : List (List UInt8)} {r : RS} (h : Gd x) (hs : Sync x V r) (hg : nxGo x = true) : Fit x.n V r (nxn x) ∧ Sync (nxG x) V (rsStep x.n r (nxn x)) := by
  rcases hs.st with ⟨h1, h2, h3⟩ | ⟨h1, h2, _, h3, h4, h5⟩
  · exact sync_first h hs hg h1 h2 h3
  · exact sync_on h hs hg h1 h2 h3 h4 h5
/-- The acknowledgements under way, taken one after the other. -/
def akF : Int → List Ln → Int
  | a, [] => a
  | a, l :: ls => akF (a + mv l.a a) ls
theorem mv_range (k a : Int) : 0 ≤ mv k a ∧ mv k a < 65536 := by unfold mv; omega
theorem akF_ge : ∀ (ls : List Ln) (a : Int), a ≤ akF a ls
  | [], a => Int.le_refl _
  | l :: ls, a => by
    have h1 := akF_ge ls (a + mv l.a a)
    have h2 := mv_range l.a a
    show a ≤ akF (a + mv l.a a) ls
    omega
theorem akF_snoc (l : Ln) : ∀ (ls : List Ln) (a : Int), akF a (ls ++ [l]) = akF a ls + mv l.a (akF a ls)
  | [], a => rfl
  | k :: ls, a => akF_snoc l ls (a + mv k.a a)
/-- One direction: from the sender x to the receiver y; L are the lines on their way to y, B those on their way back, V the messages given at x, T how many of them y has handed over. -/
structure Dir (x y : LE) (L B : List Ln) (V : List (List UInt8)) (T : Nat) : Prop where
  same : x.n = y.rn
  run : ∃ r, Run y.rn V (rsOf y T) L r ∧ Sync x V r
  ack : akF x.a B = y.told
theorem Dir.rc {x y : LE} {L B : List Ln} {V : List (List UInt8)} {T : Nat} (h : Dir x y L B V T) : y.rc ≤ x.s := by
  obtain ⟨r, h1, h2⟩ := h.run
  have := (Run.le h1).1
  rw [h2.rc] at this
  exact this
theorem Dir.got {x y : LE} {L B : List Ln} {V : List (List UInt8)} {T : Nat} (h : Dir x y L B V T) : T ≤ V.length := by
  obtain ⟨r, h1, h2⟩ := h.run
  exact Nat.le_trans (Run.le h1).2 h2.got
theorem Dir.enq {x y : LE} {L B : List Ln} {V : List (List UInt8)} {T : Nat} (h : Dir x y L B V T) (m : List UInt8) : Dir { x with q := x.q ++ [m] } y L B (V ++ [m]) T := by
  obtain ⟨r, h1, h2⟩ := h.run
  refine ⟨h.same, ⟨r, Run.more h1, ⟨h2.rc, by simp; have := h2.got; omega, ?_, ?_⟩⟩, h.ack⟩
  · show x.q ++ [m] = (V ++ [m]).drop r.got
    rw [List.drop_append_of_le_length h2.got, h2.q]
  · rcases h2.st with h3 | ⟨h3, h4, h5, h6, h7, h8⟩
    · exact .inl h3
    · have e : frM { x with q := x.q ++ [m] } = frM x := by
        unfold frM
        show (x.q ++ [m]).headD [] = x.q.headD []
        cases hq : x.q with
        | nil => rw [hq] at h5; simp at h5
        | cons a t => rfl
      refine .inr ⟨h3, h4, by show 0 < (x.q ++ [m]).length; simp, ?_, ?_, ?_⟩
      · rw [e]; exact h6
      · rw [e]; exact h7
      · rw [e]; exact h8
theorem nx_zero {x : LE} (h : Gd x) (hs : x.s < 4611686018427387904) : nxE x = 0 ∨ nxE x = 17 := by
  unfold nxE
  rw [if_pos h.v]
  split
  · rw [if_neg (by omega)]; exact .inl rfl
  · split
    · exact .inl rfl
    · exact .inr rfl
theorem nxL_told {x : LE} (h : nxE x = 0) : (nxL x).told = x.rc := by
  unfold nxL
  rw [if_pos h]
  split <;> rfl
theorem nxL_keep {x : LE} (h : nxE x = 0) : (nxL x).n = x.n ∧ (nxL x).a = x.a ∧ (nxL x).rn = x.rn ∧ (nxL x).rc = x.rc ∧ (nxL x).want = x.want ∧ (nxL x).pt = x.pt := by
  unfold nxL
  rw [if_pos h]
  split <;> exact ⟨rfl, rfl, rfl, rfl, rfl, rfl⟩
theorem Dir.tr {x y : LE} {L B : List Ln} {V : List (List UInt8)} {T : Nat} (h : Dir x y L B V T) (hx : Gd x) (h0 : nxE x = 0) : Dir (nxL x) y (L ++ [nxn x]) B V T := by
  obtain ⟨r, h1, h2⟩ := h.run
  obtain ⟨k1, k2, -⟩ := nxL_keep h0
  refine ⟨k1.trans h.same, ?_, by rw [k2]; exact h.ack⟩
  cases hg : nxGo x
  · have e1 : nxn x = ⟨2, false, false, 0, acN x.rn x.rc, z56⟩ := by unfold nxn; rw [hg]; rfl
    have e2 : nxL x = { x with told := x.rc } := by unfold nxL; rw [if_pos h0, hg]; rfl
    have hF : Fit y.rn V r (nxn x) := ⟨nxn_ok hx.ve, nxn_e hx.ve, fun hk => (by rw [e1] at hk; cases hk), fun hk _ => (by rw [e1] at hk; cases hk)⟩
    have e3 : rsStep y.rn r (nxn x) = r := by unfold rsStep; rw [e1]; rfl
    refine ⟨r, ?_, ?_⟩
    · have := Run.snoc h1 hF
      rw [e3] at this
      exact this
    · rw [e2]
      exact ⟨h2.rc, h2.got, h2.q, h2.st⟩
  · have e2 : nxL x = nxG x := by unfold nxL; rw [if_pos h0, hg]; rfl
    obtain ⟨h3, h4⟩ := sync_next hx h2 hg
    rw [h.same] at h3 h4
    exact ⟨_, Run.snoc h1 h3, by rw [e2]; exact h4⟩
theorem Dir.told {z x : LE} {L B : List Ln} {V : List (List UInt8)} {T : Nat} (h : Dir z x L B V T) (hz : Gd z) (hx : Gd x) (h0 : nxE x = 0) : Dir z (nxL x) L (B ++ [nxn x]) V T := by
  obtain ⟨k1, k2, k3, k4, k5, k6⟩ := nxL_keep h0
  refine ⟨h.same.trans k3.symm, ?_, ?_⟩
  · have e : rsOf (nxL x) T = rsOf x T := by unfold rsOf; rw [k4, k5, k6]
    rw [e, k3]
    exact h.run
  · rw [akF_snoc, h.ack, nxL_told h0]
    have e : (nxn x).a = acN x.rn x.rc := by unfold nxn; split <;> rfl
    have hr := hx.ve.vr
    have e2 : acN x.rn x.rc = IntKind.u16.wrap x.rc := by unfold acN; rw [if_pos hr]
    have h1 := h.rc
    have h2 := akF_ge B z.a
    rw [h.ack] at h2
    have h3 := vs_yes hz.ve.vs
    have h4 := h3.d
    have h5 := h3.n1
    have h6 := hx.ve.told
    rw [e, e2, IntKind.wrap_u16]
    unfold mv
    omega
theorem dv_keep (y : LE) (l : Ln) : (dvG y l.k l.f l.n l.a l.p).n = y.n ∧ (dvG y l.k l.f l.n l.a l.p).s = y.s ∧ (dvG y l.k l.f l.n l.a l.p).a = y.a + mv l.a y.a ∧ (dvG y l.k l.f l.n l.a l.p).rn = y.rn ∧ (dvG y l.k l.f l.n l.a l.p).q = y.q ∧ (dvG y l.k l.f l.n l.a l.p).off = y.off ∧ (dvG y l.k l.f l.n l.a l.p).told = y.told := by
  unfold dvG
  split <;> exact ⟨rfl, rfl, rfl, rfl, rfl, rfl, rfl⟩
/-- What the receiver hands over. -/
def tkN (y : LE) (l : Ln) (T : Nat) : Nat := if dvC y l.k l.f l.n l.p = true then T + 1 else T
theorem rs_dv (y : LE) (l : Ln) (T : Nat) : rsOf (dvG y l.k l.f l.n l.a l.p) (tkN y l T) = rsStep y.rn (rsOf y T) l := by
  have e1 : acE ((rsOf y T).le y.rn) l.f l.n l.p = acE y l.f l.n l.p := rfl
  have e2 : acW ((rsOf y T).le y.rn) l.f l.p = acW y l.f l.p := rfl
  have e3 : acP ((rsOf y T).le y.rn) l.f l.n l.p = acP y l.f l.n l.p := rfl
  unfold rsStep dvG tkN dvC
  by_cases hk : l.k = 1
  · rw [if_pos hk, if_pos hk, e1, e2, e3]
    cases hE : acE y l.f l.n l.p <;> simp [rsOf, hk]
  · rw [if_neg hk, if_neg hk]
    simp [rsOf, hk]
theorem Dir.de {x y : LE} {l : Ln} {ls B : List Ln} {V : List (List UInt8)} {T : Nat} (h : Dir x y (l :: ls) B V T) : Dir x (dvG y l.k l.f l.n l.a l.p) ls B V (tkN y l T) := by
  obtain ⟨r, h1, h2⟩ := h.run
  obtain ⟨k1, k2, k3, k4, k5, k6, k7⟩ := dv_keep y l
  refine ⟨h.same.trans k4.symm, ⟨r, ?_, h2⟩, by rw [k7]; exact h.ack⟩
  rw [k4, rs_dv]
  exact h1.2
theorem Dir.back {y x : LE} {l : Ln} {M ls : List Ln} {V : List (List UInt8)} {T : Nat} (h : Dir y x M (l :: ls) V T) : Dir (dvG y l.k l.f l.n l.a l.p) x M ls V T := by
  obtain ⟨r, h1, h2⟩ := h.run
  obtain ⟨k1, k2, k3, k4, k5, k6, k7⟩ := dv_keep y l
  refine ⟨k1.trans h.same, ⟨r, h1, ⟨h2.rc.trans k2.symm, h2.got, k5.trans h2.q, ?_⟩⟩, ?_⟩
  · unfold frM
    rw [k6, k5]
    exact h2.st
  · rw [k3]
    exact h.ack
/-- The head line is taken. -/
structure Takes (y : LE) (l : Ln) (V : List (List UInt8)) (T : Nat) : Prop where
  ok : l.ok
  e : lnE l.k l.e l.f l.n l.p = 0
  mv : mv l.a y.a ≤ y.s - y.a
  dv : dvE y l.k l.e l.f l.n l.a l.p = 0
  m : dvC y l.k l.f l.n l.p = true → V[T]? = some (dvM y l.k l.f l.n l.p)
  no : dvC y l.k l.f l.n l.p = false → dvM y l.k l.f l.n l.p = []
theorem takes {x y : LE} {l : Ln} {ls B M : List Ln} {V V' : List (List UInt8)} {T T' : Nat} (h : Dir x y (l :: ls) B V T) (hb : Dir y x M (l :: ls) V' T') (hy : Gd y) (hx : Gd x) (hs : x.s < 4611686018427387904) : Takes y l V T := by
  obtain ⟨r, ⟨hF, -⟩, -⟩ := h.run
  have hm : mv l.a y.a ≤ y.s - y.a := by
    have h1 := hb.ack
    have h2 := akF_ge ls (y.a + mv l.a y.a)
    have h3 : akF (y.a + mv l.a y.a) ls = x.told := h1
    have h4 := hx.ve.told
    have h5 := hb.rc
    omega
  have hrc := h.rc
  refine ⟨hF.ok, hF.e, hm, ?_, fun hc => ?_, fun hc => ?_⟩
  · unfold dvE
    rw [if_pos hy.v, if_pos hF.e, if_pos hm]
    by_cases hk : l.k = 1
    · have hd : acD y l.e l.f l.n l.p = true := hF.d hk
      rw [if_pos hk, if_pos hd, if_neg (by omega)]
    · rw [if_neg hk]
  · have hc2 := hc
    unfold dvC at hc2
    rw [Bool.and_eq_true, decide_eq_true_eq] at hc2
    have := hF.m hc2.1 hc2.2
    unfold dvM
    rw [if_pos hc]
    exact this
  · unfold dvM
    rw [hc]
    rfl
theorem Gd.enq {x : LE} (h : Gd x) (hq : x.q.length < 64) {m : List UInt8} (hm : m.length ≤ 1048576) : Gd { x with q := x.q ++ [m] } := by
  have hv := h.ve
  refine ⟨vE_mk ⟨hv.vs, by show (x.q ++ [m]).length ≤ 64; simp; omega, ?_, ?_, hv.vr, hv.told, hv.part, hv.same⟩, h.a, h.t⟩
  · intro k hk
    rcases List.mem_append.1 hk with h1 | h1
    · exact hv.qm k h1
    · rw [List.mem_singleton.1 h1]; exact hm
  · rcases hv.off with h1 | ⟨h1, h2, h3, h4⟩
    · exact .inl h1
    · have e : frM { x with q := x.q ++ [m] } = frM x := by
        unfold frM
        show (x.q ++ [m]).headD [] = x.q.headD []
        cases hq : x.q with
        | nil => rw [hq] at h1; simp at h1
        | cons a t => rfl
      exact .inr ⟨by show 0 < (x.q ++ [m]).length; simp, h2, by rw [e]; exact h3, h4⟩
theorem Gd.tr {x : LE} (h : Gd x) (h0 : nxE x = 0) : Gd (nxL x) := by
  have hv := h.ve
  have ht := hv.told
  have hr : 0 ≤ x.rc := by have := h.t; omega
  cases hg : nxGo x
  · have e2 : nxL x = { x with told := x.rc } := by unfold nxL; rw [if_pos h0, hg]; rfl
    rw [e2]
    exact ⟨vE_mk ⟨hv.vs, hv.ql, hv.qm, hv.off, hv.vr, Int.le_refl _, hv.part, hv.same⟩, h.a, hr⟩
  · have e2 : nxL x = nxG x := by unfold nxL; rw [if_pos h0, hg]; rfl
    obtain ⟨q0, hf⟩ := nxGo_q hg
    have hs := vs_yes hv.vs
    have hne : x.s ≠ 4611686018427387904 := by
      intro h9
      unfold nxE at h0
      rw [if_pos h.v, if_pos hg, if_pos h9] at h0
      cases h0
    have hfr : x.s - x.a < x.n := by unfold fr at hf; rw [if_pos hv.vs] at hf; omega
    have hvs : vs x.n (x.s + 1) x.a = true := vs_mk ⟨hs.vl, hs.n0, hs.n1, by have := hs.a0; omega, by omega, by have := hs.m; omega⟩
    rw [e2]
    by_cases he : nxEnd x = true
    · have e1 : nxG x = { x with s := x.s + 1, off := -1, q := x.q.tail, told := x.rc } := by unfold nxG; rw [if_pos he, if_pos he]
      rw [e1]
      exact ⟨vE_mk ⟨hvs, by show x.q.tail.length ≤ 64; have := hv.ql; simp; omega, fun m hm => hv.qm m (List.mem_of_mem_tail hm), .inl rfl, hv.vr, Int.le_refl _, hv.part, hv.same⟩, h.a, hr⟩
    · have e1 : nxG x = { x with s := x.s + 1, off := (frS x : Int), told := x.rc } := by unfold nxG; rw [if_neg he, if_neg he]
      have hne : ¬ frS x = (frM x).length := by unfold nxEnd at he; simpa using he
      have ho : (x.off = -1 ∧ frS x = min (frM x).length 52) ∨ (52 ≤ x.off ∧ (x.off - 52) % 56 = 0 ∧ frS x = min (frM x).length (x.off.toNat + 56)) := by
        rcases hv.off with h1 | ⟨h1, h2, h3, h4⟩
        · exact .inl ⟨h1, by unfold frS; rw [if_pos (by omega)]⟩
        · exact .inr ⟨h2, h4, by unfold frS; rw [if_neg (by omega)]⟩
      rw [e1]
      refine ⟨vE_mk ⟨hvs, hv.ql, hv.qm, .inr ⟨q0, ?_, ?_, ?_⟩, hv.vr, Int.le_refl _, hv.part, hv.same⟩, h.a, hr⟩
      · show 52 ≤ (frS x : Int)
        omega
      · show (frS x : Int) < (frM x).length
        omega
      · show ((frS x : Int) - 52) % 56 = 0
        omega
theorem Gd.de {y : LE} (h : Gd y) {l : Ln} {V : List (List UInt8)} {T : Nat} (t : Takes y l V T) : Gd (dvG y l.k l.f l.n l.a l.p) := by
  have hv := h.ve
  have hs := vs_yes hv.vs
  have hm := mv_range l.a y.a
  have hle := t.mv
  have hvs : vs y.n y.s (y.a + mv l.a y.a) = true := vs_mk ⟨hs.vl, hs.n0, hs.n1, by omega, by have := hs.d; omega, hs.m⟩
  have ha := h.a
  by_cases hk : l.k = 1
  · have hdv := t.dv
    unfold dvE at hdv
    rw [if_pos h.v, if_pos t.e, if_pos hle, if_pos hk] at hdv
    have hD : acD y l.e l.f l.n l.p = true := by
      cases hD : acD y l.e l.f l.n l.p
      · rw [hD] at hdv; cases hdv
      · rfl
    rw [if_pos hD] at hdv
    have h62 : y.rc ≠ 4611686018427387904 := by
      intro h9
      rw [if_pos h9] at hdv
      cases hdv
    have hr1 := vr_le hv.vr
    have hvr : vr y.rn (y.rc + 1) = true := vr_mk (vr_vl hv.vr) (by omega)
    have htl : y.told ≤ y.rc + 1 := by have := hv.told; omega
    unfold dvG
    rw [if_pos hk]
    cases hE : acE y l.f l.n l.p
    · simp only [if_false, Bool.false_eq_true]
      refine ⟨vE_mk ⟨hvs, hv.ql, hv.qm, hv.off, hvr, htl, ?_, hv.same⟩, by show 0 ≤ y.a + mv l.a y.a; omega, h.t⟩
      show partOk (acW y l.f l.p) (acP y l.f l.n l.p) = true
      have hE' : ¬ acW y l.f l.p ≤ ((acP y l.f l.n l.p).length : Int) := by unfold acE at hE; simpa using hE
      unfold acD at hD
      simp only [Bool.and_eq_true, beq_iff_eq, decide_eq_true_eq] at hD
      obtain ⟨⟨⟨⟨-, hf⟩, hn0⟩, hn1⟩, hif⟩ := hD
      have hpl := t.ok.1
      cases hfl : l.f
      · rw [hfl] at hif hE' hf
        simp only [Bool.false_eq_true, if_false, beq_iff_eq] at hif
        rcases partOk_yes hv.part with ⟨h1, h2⟩ | ⟨h1, h2, h3, h4⟩
        · rw [h1] at hf; cases hf
        · have hl : (acP y false l.n l.p).length = y.pt.length + l.n.toNat := by
            unfold acP acB
            simp
            omega
          have hw : acW y false l.p = y.want := rfl
          rw [hl, hw] at hE'
          exact partOk_mk (by rw [hw]; omega) (by rw [hl]; omega) (by rw [hl, hw]; omega) (by rw [hl]; omega)
      · rw [hfl] at hif hE' hf
        simp only [if_true, Bool.and_eq_true, decide_eq_true_eq, beq_iff_eq] at hif
        obtain ⟨⟨h4, hH⟩, hmin⟩ := hif
        rcases partOk_yes hv.part with ⟨h1, h2⟩ | ⟨h1, h2, h3, _⟩
        · have hl : (acP y true l.n l.p).length = l.n.toNat - 4 := by
            unfold acP acB
            rw [h2]
            simp
            omega
          have hw : acW y true l.p = (acH l.p : Int) := rfl
          rw [hl, hw] at hE'
          exact partOk_mk (by rw [hw]; omega) (by rw [hl]; omega) (by rw [hl, hw]; omega) (by rw [hl]; omega)
        · exfalso
          have h5 : (y.want == -1) = false := by rw [beq_eq_false_iff_ne]; omega
          rw [h5] at hf
          cases hf
    · simp only [if_true]
      exact ⟨vE_mk ⟨hvs, hv.ql, hv.qm, hv.off, hvr, htl, rfl, hv.same⟩, by show 0 ≤ y.a + mv l.a y.a; omega, h.t⟩
  · have e : dvG y l.k l.f l.n l.a l.p = { y with a := y.a + mv l.a y.a } := by unfold dvG; rw [if_neg hk]
    rw [e]
    exact ⟨vE_mk ⟨hvs, hv.ql, hv.qm, hv.off, hv.vr, hv.told, hv.part, hv.same⟩, by show 0 ≤ y.a + mv l.a y.a; omega, h.t⟩
end
section
open Go.RowKit
def upd {α : Type} (f : Nat → α) (i : Nat) (x : α) : Nat → α := fun k => if k = i then x else f k
theorem upd_self {α : Type} (f : Nat → α) (i : Nat) (x : α) : upd f i x i = x := if_pos rfl
theorem upd_other {α : Type} {f : Nat → α} {i k : Nat} {x : α} (h : k ≠ i) : upd f i x k = f k := if_neg h
/-- The wire: its ends, the lines on their way to each end, the messages given at each end, how many each end has obtained. -/
structure WrS where
  (E : Nat → LE) (Y : Nat → List Ln) (V : Nat → List (List UInt8)) (T : Nat → Nat)
/-- Where its slices lie. -/
structure WrP where
  (A B : Nat → Option Addr) (c d : Nat → Nat) (yA vA tA : Nat → Option Addr) (yc vc tc : Nat → Nat)
def WCell (S : WrS) (p : WrP) : List Value :=
  (LEV (S.E 0) (p.A 0) (p.c 0) (p.B 0) (p.d 0)).toList ++ ((LEV (S.E 1) (p.A 1) (p.c 1) (p.B 1) (p.d 1)).toList ++ [.slice (p.yA 0) (S.Y 0).length (p.yc 0), .slice (p.yA 1) (S.Y 1).length (p.yc 1), .slice (p.vA 0) (S.V 0).length (p.vc 0), .slice (p.vA 1) (S.V 1).length (p.vc 1), .slice (p.tA 0) (S.T 0) (p.tc 0), .slice (p.tA 1) (S.T 1) (p.tc 1)])
/-- A queue of the call's own, of colour k. -/
structure OwnK (col : Nat → Nat) (k : Nat) (w : World) (e : TypeId) (size : Nat) (A : Option Addr) (n c : Nat) (xs : List Value) : Prop where
  part : Part col k w (fun w => OwnQ w e size A n c xs)
  blk : ∀ b, blk A = some b → col b = k
/-- These slices read as the messages. -/
def MsgK (col : Nat → Nat) (w : World) (vs : List Value) (q : List (List UInt8)) : Prop := vs.length = q.length ∧ ∀ i (h : i < q.length), ∃ A c, vs[i]? = some (.slice A (q[i]).length c) ∧ Part col 0 w (fun w => IsB w A (q[i]).length q[i])
structure WM (base g : Nat) (col : Nat → Nat) (w : World) (S : WrS) (p : WrP) : Prop where
  row : Part col 1 w (fun w => Row w g 94 (WCell S p).toArray)
  cg : col g = 1
  cb : ∀ x, x < base → col x = 0
  cn : ∀ x, w.heap.size ≤ x → col x = 0
  held : ∀ s, s < 2 → Part col 0 w (fun w => Held w (S.E s) (p.A s) (p.c s) (p.B s) (p.d s))
  way : ∀ s, s < 2 → OwnK col (2 + s) w 40 61 (p.yA s) (S.Y s).length (p.yc s) (lsC (S.Y s))
  wok : ∀ s, s < 2 → ∀ l ∈ S.Y s, l.ok
  given : ∀ s, s < 2 → ∃ vs, OwnK col (4 + s) w 44 1 (p.vA s) (S.V s).length (p.vc s) vs ∧ MsgK col w vs (S.V s)
  got : ∀ s, s < 2 → ∃ vs, OwnK col (6 + s) w 44 1 (p.tA s) (S.T s) (p.tc s) vs
section
variable {base g k b j : Nat} {col : Nat → Nat} {w wA w2 w3 w' : World} {S : WrS} {p : WrP} {s : Nat}
theorem OwnK.below {e : TypeId} {size n c : Nat} {A : Option Addr} {xs : List Value} (h : OwnK col k w e size A n c xs) (hb : Below w.heap.size w w') : OwnK col k w' e size A n c xs := ⟨h.part.below hb, h.blk⟩
theorem MsgK.below {vs : List Value} {q : List (List UInt8)} (h : MsgK col w vs q) (hb : Below w.heap.size w w') : MsgK col w' vs q := ⟨h.1, fun i hi => by
  obtain ⟨A, c, e, hp⟩ := h.2 i hi
  exact ⟨A, c, e, hp.below hb⟩⟩
theorem WM.below (h : WM base g col w S p) (hb : Below w.heap.size w w') : WM base g col w' S p :=
  ⟨h.row.below hb, h.cg, h.cb, fun x hx => h.cn x (Nat.le_trans hb.size hx), fun s hs => (h.held s hs).below hb, fun s hs => (h.way s hs).below hb, h.wok, fun s hs => by
    obtain ⟨vs, h1, h2⟩ := h.given s hs
    exact ⟨vs, h1.below hb, h2.below hb⟩, fun s hs => by
    obtain ⟨vs, h1⟩ := h.got s hs
    exact ⟨vs, h1.below hb⟩⟩
theorem WM.lt (h : WM base g col w S p) : g < w.heap.size := h.row.now.lt
theorem WM.bg (h : WM base g col w S p) : base ≤ g := by
  rcases Nat.lt_or_ge g base with h1 | h1
  · have := h.cb g h1
    rw [h.cg] at this
    cases this
  · exact h1
theorem WM.white {wB : World} (h : WM base g col w S p) (hw : White col w w') (hB : Below base wB w) : Below base wB w' := hw.below_base h.cb (Nat.le_of_lt (Nat.lt_of_le_of_lt h.bg h.lt)) hB
/-- What a step leaves behind. -/
def WStep (base g : Nat) (col : Nat → Nat) (w : World) (S' : WrS) (en : Ending) (W' : World) : Prop := en = .returned (.bool true) ∧ ∃ col' p', WM base g col' W' S' p' ∧ White col w W' ∧ ∀ x, x < w.heap.size → col x = 0 → col' x = 0
theorem WStep.same (h : WM base g col w S p) (hb : Below w.heap.size w w') : WStep base g col w S (.returned (.bool true)) w' := ⟨rfl, col, p, h.below hb, White.below hb, fun _ _ h => h⟩
theorem OwnK.upd {e : TypeId} {size n c : Nat} {A : Option Addr} {xs : List Value} (h : OwnK col k w e size A n c xs) (u : Upd w w' g) (hg : col g = 1) (hk : 1 ≠ k) : OwnK col k w' e size A n c xs := ⟨h.part.only (Only.upd u hg) hk, h.blk⟩
theorem MsgK.only {vs : List Value} {q : List (List UInt8)} (h : MsgK col w vs q) (u : Only col k w w') (hk : k ≠ 0) : MsgK col w' vs q := ⟨h.1, fun i hi => by
  obtain ⟨A, c, e, hp⟩ := h.2 i hi
  exact ⟨A, c, e, hp.only u hk⟩⟩
theorem MsgK.paint {vs : List Value} {q : List (List UInt8)} (h : MsgK col w vs q) (hb : w.heap.size ≤ b ∨ col b = k) (hk : k ≠ 0) : MsgK (paint col b k) w vs q := ⟨h.1, fun i hi => by
  obtain ⟨A, c, e, hp⟩ := h.2 i hi
  exact ⟨A, c, e, hp.paint hb hk⟩⟩
theorem MsgK.snoc {vs : List Value} {q : List (List UInt8)} {m : List UInt8} {A : Option Addr} {c : Nat} (h : MsgK col w vs q) (hm : Part col 0 w (fun w => IsB w A m.length m)) : MsgK col w (vs ++ [.slice A m.length c]) (q ++ [m]) := by
  refine ⟨by simp [h.1], fun i hi => ?_⟩
  rcases Nat.lt_or_ge i q.length with h1 | h1
  · obtain ⟨A', c', e, ho'⟩ := h.2 i h1
    refine ⟨A', c', ?_, ?_⟩
    · rw [List.getElem?_append_left (by rw [h.1]; exact h1), e, List.getElem_append_left h1]
    · rw [List.getElem_append_left h1]; exact ho'
  · have hi' : i = q.length := by simp at hi; omega
    subst hi'
    refine ⟨A, c, ?_, ?_⟩
    · rw [List.getElem?_append_right (by rw [h.1]; exact Nat.le_refl _), h.1]; simp
    · simpa using hm
/-- The wire's own row changes, and with it what end s is. -/
theorem WM.putE (h : WM base g col w S p) (hs : s < 2) {e' : LE} {A B : Option Addr} {c d : Nat} (u : Upd w w' g) (hH : Part col 0 w (fun w => Held w e' A c B d))
    (hr : Row w' g 94 (WCell { S with E := upd S.E s e' } { p with A := upd p.A s A, c := upd p.c s c, B := upd p.B s B, d := upd p.d s d }).toArray) :
    WM base g col w' { S with E := upd S.E s e' } { p with A := upd p.A s A, c := upd p.c s c, B := upd p.B s B, d := upd p.d s d } := by
  have o := Only.upd u h.cg
  refine ⟨Part.row hr h.cg, h.cg, h.cb, fun x hx => h.cn x (by rw [← u.size]; exact hx), fun t ht => ?_, fun t ht => (h.way t ht).upd u h.cg (by omega), h.wok, fun t ht => ?_, fun t ht => ?_⟩
  · by_cases e : t = s
    · subst e
      simp only [upd_self]
      exact hH.only o (by omega)
    · simp only [upd_other e]
      exact (h.held t ht).only o (by omega)
  · obtain ⟨vs, h1, h2⟩ := h.given t ht
    exact ⟨vs, h1.upd u h.cg (by omega), h2.only o (by omega)⟩
  · obtain ⟨vs, h1⟩ := h.got t ht
    exact ⟨vs, h1.upd u h.cg (by omega)⟩
/-- A queue of colour k grows, in its own block or in a new one, b; then the wire's own row changes. -/
structure Grow (g k b : Nat) (col : Nat → Nat) (wA w2 w3 : World) (row : Option Nat) : Prop where
  lt : g < wA.heap.size
  cg : col g = 1
  k1 : 1 ≠ k
  k0 : k ≠ 0
  gr : wA.grownBy w2 row
  rw : ∀ x, row = some x → col x = k
  bb : row = some b ∨ wA.heap.size ≤ b
  bl : b < w2.heap.size
  u : Upd w2 w3 g
theorem Grow.bk {row : Option Nat} (h : Grow g k b col wA w2 w3 row) : wA.heap.size ≤ b ∨ col b = k := by
  rcases h.bb with h1 | h1
  · exact .inr (h.rw b h1)
  · exact .inl h1
theorem Grow.gb {row : Option Nat} (h : Grow g k b col wA w2 w3 row) : g ≠ b := by
  intro e
  subst e
  rcases h.bk with h1 | h1
  · have := h.lt; omega
  · exact h.k1 (h.cg.symm.trans h1)
theorem Grow.cg' {row : Option Nat} (h : Grow g k b col wA w2 w3 row) : paint col b k g = 1 := by rw [paint_other h.gb]; exact h.cg
theorem Grow.o1 {row : Option Nat} (h : Grow g k b col wA w2 w3 row) : Only (paint col b k) k wA w2 := (Only.grown h.gr h.rw).paint h.bk
theorem Grow.o2 {row : Option Nat} (h : Grow g k b col wA w2 w3 row) : Only (paint col b k) 1 w2 w3 := Only.upd h.u h.cg'
theorem Grow.part {row : Option Nat} {P : World → Prop} (h : Grow g k b col wA w2 w3 row) (hp : Part col j wA P) (hj : k ≠ j) (hj1 : 1 ≠ j) : Part (paint col b k) j w3 P := ((hp.paint h.bk hj).only h.o1 hj).only h.o2 hj1
theorem Grow.own {row : Option Nat} {e : TypeId} {size n c : Nat} {A : Option Addr} {xs : List Value} (h : Grow g k b col wA w2 w3 row) (hp : OwnK col j wA e size A n c xs) (hj : k ≠ j) (hj1 : 1 ≠ j) : OwnK (paint col b k) j w3 e size A n c xs := ⟨h.part hp.part hj hj1, fun x hx => by
  have hc := hp.blk x hx
  rw [paint_other]
  · exact hc
  · intro e
    subst e
    rcases h.bk with h1 | h1
    · have := hp.part.now.lt x hx; omega
    · exact hj (h1.symm.trans hc)⟩
theorem Grow.new {row : Option Nat} {e : TypeId} {size n c : Nat} {A : Option Addr} {xs : List Value} (h : Grow g k b col wA w2 w3 row) (hq : OwnQ w2 e size A n c xs) (hb : blk A = some b) : OwnK (paint col b k) k w3 e size A n c xs := by
  have hc : ∀ x, blk A = some x → paint col b k x = k := fun x hx => by
    rw [hb] at hx
    injection hx with hx
    rw [← hx, paint_self]
  exact ⟨(Part.own hq hc).only h.o2 h.k1, hc⟩
theorem Grow.msg {row : Option Nat} {vs : List Value} {q : List (List UInt8)} (h : Grow g k b col wA w2 w3 row) (hm : MsgK col wA vs q) : MsgK (paint col b k) w3 vs q := ((hm.paint h.bk h.k0).only h.o1 h.k0).only h.o2 (by omega)
theorem Grow.wm {row : Option Nat} (h : Grow g k b col wA w2 w3 row) (hM : WM base g col wA S p) : (∀ x, x < base → paint col b k x = 0) ∧ (∀ x, w3.heap.size ≤ x → paint col b k x = 0) := by
  refine ⟨fun x hx => ?_, fun x hx => ?_⟩
  · rw [paint_other]
    · exact hM.cb x hx
    · intro e
      subst e
      rcases h.bk with h1 | h1
      · have := hM.bg; have := hM.lt; omega
      · exact h.k0 (h1.symm.trans (hM.cb x hx))
  · have hs := h.u.size
    have h1 := h.bl
    have h2 := h.gr.size
    rw [paint_other (by omega)]
    exact hM.cn x (by omega)
theorem Grow.white {row : Option Nat} (h : Grow g k b col wA w2 w3 row) : White col wA w3 ∧ ∀ x, x < wA.heap.size → col x = 0 → paint col b k x = 0 := by
  have hc : ∀ x, x < wA.heap.size → col x = 0 → paint col b k x = 0 := fun x hx hc => by
    rw [paint_other]
    · exact hc
    · intro e
      subst e
      rcases h.bk with h1 | h1
      · omega
      · exact h.k0 (h1.symm.trans hc)
  exact ⟨((h.o1.white h.k0).trans (h.o2.white (by omega))).of hc, hc⟩
theorem WM.appV {row : Option Nat} (hM : WM base g col wA S p) (hs : s < 2) (h : Grow g (4 + s) b col wA w2 w3 row) {m : List UInt8} {vs : List Value} {A Am : Option Addr} {c cm : Nat} (hm : MsgK col wA vs (S.V s)) (hq : OwnQ w2 44 1 A ((S.V s).length + 1) c (vs ++ [.slice Am m.length cm])) (hb : blk A = some b)
    (hI : Part col 0 wA (fun w => IsB w Am m.length m)) (hr : Row w3 g 94 (WCell { S with V := upd S.V s (S.V s ++ [m]) } { p with vA := upd p.vA s A, vc := upd p.vc s c }).toArray) :
    WM base g (paint col b (4 + s)) w3 { S with V := upd S.V s (S.V s ++ [m]) } { p with vA := upd p.vA s A, vc := upd p.vc s c } := by
  obtain ⟨h1, h2⟩ := h.wm hM
  refine ⟨Part.row hr h.cg', h.cg', h1, h2, fun t ht => h.part (hM.held t ht) (by omega) (by omega), fun t ht => h.own (hM.way t ht) (by omega) (by omega), hM.wok, fun t ht => ?_, fun t ht => ?_⟩
  · by_cases e : t = s
    · subst e
      simp only [upd_self]
      refine ⟨vs ++ [.slice Am m.length cm], ?_, h.msg (hm.snoc hI)⟩
      have := h.new hq hb
      simpa using this
    · simp only [upd_other e]
      obtain ⟨vs', h3, h4⟩ := hM.given t ht
      exact ⟨vs', h.own h3 (by omega) (by omega), h.msg h4⟩
  · obtain ⟨vs', h3⟩ := hM.got t ht
    exact ⟨vs', h.own h3 (by omega) (by omega)⟩
theorem WM.appT {row : Option Nat} (hM : WM base g col wA S p) (hs : s < 2) (h : Grow g (6 + s) b col wA w2 w3 row) {vs : List Value} {A : Option Addr} {c : Nat} (hq : OwnQ w2 44 1 A (S.T s + 1) c vs) (hb : blk A = some b)
    (hr : Row w3 g 94 (WCell { S with T := upd S.T s (S.T s + 1) } { p with tA := upd p.tA s A, tc := upd p.tc s c }).toArray) :
    WM base g (paint col b (6 + s)) w3 { S with T := upd S.T s (S.T s + 1) } { p with tA := upd p.tA s A, tc := upd p.tc s c } := by
  obtain ⟨h1, h2⟩ := h.wm hM
  refine ⟨Part.row hr h.cg', h.cg', h1, h2, fun t ht => h.part (hM.held t ht) (by omega) (by omega), fun t ht => h.own (hM.way t ht) (by omega) (by omega), hM.wok, fun t ht => ?_, fun t ht => ?_⟩
  · obtain ⟨vs', h3, h4⟩ := hM.given t ht
    exact ⟨vs', h.own h3 (by omega) (by omega), h.msg h4⟩
  · by_cases e : t = s
    · subst e
      simp only [upd_self]
      exact ⟨vs, h.new hq hb⟩
    · simp only [upd_other e]
      obtain ⟨vs', h3⟩ := hM.got t ht
      exact ⟨vs', h.own h3 (by omega) (by omega)⟩
theorem lsC_snoc (ls : List Ln) (l : Ln) : lsC (ls ++ [l]) = lsC ls ++ l.v.toList := by simp [lsC]
theorem WM.appY {row : Option Nat} (hM : WM base g col wA S p) (hs : s < 2) (h : Grow g (2 + s) b col wA w2 w3 row) {l : Ln} {A : Option Addr} {c : Nat} (hl : l.ok) (hq : OwnQ w2 40 61 A ((S.Y s).length + 1) c (lsC (S.Y s) ++ l.v.toList)) (hb : blk A = some b)
    (hr : Row w3 g 94 (WCell { S with Y := upd S.Y s (S.Y s ++ [l]) } { p with yA := upd p.yA s A, yc := upd p.yc s c }).toArray) :
    WM base g (paint col b (2 + s)) w3 { S with Y := upd S.Y s (S.Y s ++ [l]) } { p with yA := upd p.yA s A, yc := upd p.yc s c } := by
  obtain ⟨h1, h2⟩ := h.wm hM
  refine ⟨Part.row hr h.cg', h.cg', h1, h2, fun t ht => h.part (hM.held t ht) (by omega) (by omega), fun t ht => ?_, fun t ht l' hl' => ?_, fun t ht => ?_, fun t ht => ?_⟩
  · by_cases e : t = s
    · subst e
      simp only [upd_self]
      have := h.new hq hb
      rw [lsC_snoc]
      simpa using this
    · simp only [upd_other e]
      exact h.own (hM.way t ht) (by omega) (by omega)
  · by_cases e : t = s
    · subst e
      simp only [upd_self] at hl'
      rcases List.mem_append.1 hl' with h3 | h3
      · exact hM.wok t ht l' h3
      · rw [List.mem_singleton.1 h3]; exact hl
    · simp only [upd_other e] at hl'
      exact hM.wok t ht l' hl'
  · obtain ⟨vs', h3, h4⟩ := hM.given t ht
    exact ⟨vs', h.own h3 (by omega) (by omega), h.msg h4⟩
  · obtain ⟨vs', h3⟩ := hM.got t ht
    exact ⟨vs', h.own h3 (by omega) (by omega)⟩
/-- The first line is taken off. -/
theorem WM.tailY (hM : WM base g col w S p) (hs : s < 2) {l : Ln} {ls : List Ln} (he : S.Y s = l :: ls) {A : Option Addr} {c : Nat} (u : Upd w w' g) (hA : blk A = blk (p.yA s)) (hq : OwnQ w 40 61 A ls.length c (lsC ls))
    (hr : Row w' g 94 (WCell { S with Y := upd S.Y s ls } { p with yA := upd p.yA s A, yc := upd p.yc s c }).toArray) :
    WM base g col w' { S with Y := upd S.Y s ls } { p with yA := upd p.yA s A, yc := upd p.yc s c } := by
  have o := Only.upd u hM.cg
  refine ⟨Part.row hr hM.cg, hM.cg, hM.cb, fun x hx => hM.cn x (by rw [← u.size]; exact hx), fun t ht => (hM.held t ht).only o (by omega), fun t ht => ?_, fun t ht l' hl' => ?_, fun t ht => ?_, fun t ht => ?_⟩
  · by_cases e : t = s
    · subst e
      simp only [upd_self]
      have hc : ∀ b, blk A = some b → col b = 2 + t := fun b hb => (hM.way t ht).blk b (by rw [← hA]; exact hb)
      exact ⟨(Part.own hq hc).only o (by omega), hc⟩
    · simp only [upd_other e]
      exact (hM.way t ht).upd u hM.cg (by omega)
  · by_cases e : t = s
    · subst e
      simp only [upd_self] at hl'
      exact hM.wok t ht l' (by rw [he]; exact List.mem_cons_of_mem _ hl')
    · simp only [upd_other e] at hl'
      exact hM.wok t ht l' hl'
  · obtain ⟨vs, h1, h2⟩ := hM.given t ht
    exact ⟨vs, h1.upd u hM.cg (by omega), h2.only o (by omega)⟩
  · obtain ⟨vs, h1⟩ := hM.got t ht
    exact ⟨vs, h1.upd u hM.cg (by omega)⟩
end
/-- The cells of the wire's own row. -/
theorem wcell_len (S : WrS) (p : WrP) : (WCell S p).length = 26 := rfl
theorem WM.cells {base g : Nat} {col : Nat → Nat} {w : World} {S : WrS} {p : WrP} (h : WM base g col w S p) :
    (w.cell? ⟨g, 20, none⟩ = some (.slice (p.yA 0) (S.Y 0).length (p.yc 0)) ∧ w.cell? ⟨g, 21, none⟩ = some (.slice (p.yA 1) (S.Y 1).length (p.yc 1)) ∧ w.cell? ⟨g, 22, none⟩ = some (.slice (p.vA 0) (S.V 0).length (p.vc 0)) ∧ w.cell? ⟨g, 23, none⟩ = some (.slice (p.vA 1) (S.V 1).length (p.vc 1)) ∧
     w.cell? ⟨g, 24, none⟩ = some (.slice (p.tA 0) (S.T 0) (p.tc 0)) ∧ w.cell? ⟨g, 25, none⟩ = some (.slice (p.tA 1) (S.T 1) (p.tc 1))) ∧ (∀ i, w.frozen? ⟨g, i, none⟩ = false) ∧
    w.rangeAt g 0 (LEV (S.E 0) (p.A 0) (p.c 0) (p.B 0) (p.d 0)).toList ∧ w.rangeAt g 10 (LEV (S.E 1) (p.A 1) (p.c 1) (p.B 1) (p.d 1)).toList := by
  have hr := h.row.now
  refine ⟨⟨hr.cell 20, hr.cell 21, hr.cell 22, hr.cell 23, hr.cell 24, hr.cell 25⟩, hr.frozen, fun j v hv => ?_, fun j v hv => ?_⟩
  · rw [Nat.zero_add, hr.cell]
    have hj : j < 10 := by have := (List.getElem?_eq_some_iff.1 hv).1; simpa [LEV] using this
    rw [List.getElem?_toArray]
    unfold WCell
    rw [List.getElem?_append_left (by simpa [LEV] using hj)]
    exact hv
  · rw [hr.cell]
    have hj : j < 10 := by have := (List.getElem?_eq_some_iff.1 hv).1; simpa [LEV] using this
    rw [List.getElem?_toArray]
    unfold WCell
    rw [List.getElem?_append_right (by simp [LEV]), List.getElem?_append_left (by simp [LEV]; omega)]
    have : 10 + j - (LEV (S.E 0) (p.A 0) (p.c 0) (p.B 0) (p.d 0)).toList.length = j := by simp [LEV]
    rw [this]
    exact hv
end
end Go.Proofs.Ythjkhambmgepdaa
