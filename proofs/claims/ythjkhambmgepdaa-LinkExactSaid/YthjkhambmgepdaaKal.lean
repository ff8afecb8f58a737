/- Texts Fb Fc, without what this claim does not use. -/
import Derived.Test.YthjkhambmgepdaaKai
import Derived.Test.YthjkhambmgepdaaKak
namespace Go.Proofs.Ythjkhambmgepdaa
section
open Go.RowKit
set_option linter.unusedVariables false
set_option linter.unusedSimpArgs false
/-- A message is put behind the queue, in a region that draws its order: number ia copies it, ib makes its slice, ic appends. -/
def EnqR (ia ib ic : Nat) (W w0 : World) (base g : Nat) (C : Value → Array Value) (A : Option Addr) (n c0 : Nat) (vs : List Value) (m : Nat) (bs : List UInt8) (c : Nat) (us : Nat → Value) (w' : World) : Prop :=
  Below W.heap.size W w' ∧ Keeps [44, 69] w0 w' ∧ (c ≤ 2 → Below w0.heap.size w0 w') ∧
  (c = 1 → ∃ Am cm, us ia = .slice Am m cm ∧ OwnB w' w0.heap.size 5 Am m cm bs) ∧
  (c = 2 → ∃ Am cm gb, us ib = .slice (some ⟨gb, 0, none⟩) 1 1 ∧ Row w' gb 44 #[.slice Am m cm] ∧ OwnB w' w0.heap.size 5 Am m cm bs) ∧
  (3 ≤ c → ∃ A' c' Am cm, us ic = .slice A' (n + 1) c' ∧ OwnV w' base 44 1 A' (n + 1) c' (vs ++ [.slice Am m cm]) ∧ OwnB w' w0.heap.size 5 Am m cm bs ∧ (4 ≤ c → Row w' g 69 (C (.slice A' (n + 1) c')))) ∧
  (c = 3 → Row w' g 69 (C (.slice A n c0)))
section
variable {ia ib ic id : Nat} {W w0 : World} {base g : Nat} {C : Value → Array Value} {A : Option Addr} {n c0 : Nat} {vs : List Value} {m : Nat} {bs : List UInt8} {us : Nat → Value} {w9 w' : World}
theorem EnqR.loc {ops : Array Oper} : ∀ c us us' w, (∀ k, mayAt ops [ia, ib, ic, id] c k = false ∨ k ∈ [ia, ib, ic, id].take c → us k = us' k) → EnqR ia ib ic W w0 base g C A n c0 vs m bs c us w → EnqR ia ib ic W w0 base g C A n c0 vs m bs c us' w := by
  intro c us us' w hk ⟨a, b, d, e, f, h, i⟩
  refine ⟨a, b, d, fun hc => ?_, fun hc => ?_, fun hc => ?_, i⟩
  · rw [← hk ia (.inr (by subst hc; simp))]
    exact e hc
  · rw [← hk ib (.inr (by subst hc; simp))]
    exact f hc
  · rw [← hk ic (.inr (by obtain ⟨k, rfl⟩ : ∃ k, c = k + 3 := ⟨c - 3, by omega⟩; simp))]
    exact h hc
theorem EnqR.zero (h : Below W.heap.size W w0) : EnqR ia ib ic W w0 base g C A n c0 vs m bs 0 us w0 := ⟨h, Keeps.refl _ _, fun _ => Below.refl _ _, fun h => by omega, fun h => by omega, fun h => by omega, fun h => by omega⟩
theorem EnqR.one (h : EnqR ia ib ic W w0 base g C A n c0 vs m bs 0 us w9) (hb : Below w9.heap.size w9 w') {Am : Option Addr} {cm : Nat} (ho : OwnB w' w9.heap.size 5 Am m cm bs) : EnqR ia ib ic W w0 base g C A n c0 vs m bs 1 (fun k => if k = ia then .slice Am m cm else us k) w' :=
  ⟨below_on h.1 hb, h.2.1.trans (Keeps.below hb), fun _ => below_on (h.2.2.1 (by omega)) hb, fun _ => ⟨Am, cm, if_pos rfl, ho.lower h.2.1.1⟩, fun h => by omega, fun h => by omega, fun h => by omega⟩
theorem EnqR.two (h : EnqR ia ib ic W w0 base g C A n c0 vs m bs 1 us w9) {Am : Option Addr} {cm : Nat} (ho : OwnB w9 w0.heap.size 5 Am m cm bs) : EnqR ia ib ic W w0 base g C A n c0 vs m bs 2 (fun k => if k = ib then .slice (some ⟨w9.heap.size, 0, none⟩) 1 1 else us k) (w9.alloc (.cells #[.slice Am m cm] 44)) := by
  have hb := (Below.refl w9.heap.size w9).alloc (Nat.le_refl _) (.cells #[.slice Am m cm] 44)
  exact ⟨below_on h.1 hb, h.2.1.trans (Keeps.below hb), fun _ => below_on (h.2.2.1 (by omega)) hb, fun h => by omega, fun _ => ⟨Am, cm, w9.heap.size, if_pos rfl, Row.born _ _ _, ho.alloc _⟩, fun h => by omega, fun h => by omega⟩
theorem EnqR.three (h : EnqR ia ib ic W w0 base g C A n c0 vs m bs 2 us w9) (hW : W.heap.size ≤ base) (hr0 : Row w0 g 69 (C (.slice A n c0))) (hown : OwnV w9 base 44 1 A n c0 vs) {Am A' : Option Addr} {cm c' : Nat} (ho : OwnB w9 w0.heap.size 5 Am m cm bs) (h2 : OwnV w' base 44 1 A' (n + 1) c' (vs ++ [.slice Am m cm])) (h3 : w9.grownBy w' (Value.slice A n c0).ownBlock) :
    EnqR ia ib ic W w0 base g C A n c0 vs m bs 3 (fun k => if k = ic then .slice A' (n + 1) c' else us k) w' := by
  have k4 : Keeps [44] w9 w' := Keeps.grown h3 hown.typed
  have k : Keeps [44, 69] w9 w' := ⟨k4.1, fun g t cs fr hg ht => k4.2 g t cs fr hg (fun h' => ht (by simp at h'; simp [h']))⟩
  have hsz : W.heap.size ≤ w9.heap.size := h.1.size
  refine ⟨h.1.grown h3 hsz (fun k hk => by have := (hown.ge k hk).1; omega), h.2.1.trans k, fun h => by omega, fun h => by omega, fun h => by omega, fun _ => ⟨A', c', Am, cm, if_pos rfl, h2, ho.keeps k4 (by decide), fun h => by omega⟩, fun _ => ?_⟩
  exact k4.row ((h.2.2.1 (by omega)).block g hr0.lt |>.trans hr0) (by decide)
theorem EnqR.four (h : EnqR ia ib ic W w0 base g C A n c0 vs m bs 3 us w9) {u : Value} (hu : us ic = u) (hWg : W.heap.size ≤ g) (hC : ∀ v u, (C v).setIfInBounds 5 u = C u) : EnqR ia ib ic W w0 base g C A n c0 vs m bs 4 us (w9.setCell ⟨g, 5, none⟩ u) := by
  obtain ⟨A', c', Am, cm, h1, h2, h3, -⟩ := h.2.2.2.2.2.1 (by omega)
  have hr := h.2.2.2.2.2.2 rfl
  have k : Keeps [69] w9 (w9.setCell ⟨g, 5, none⟩ u) := Keeps.upd (Upd.setCell w9 g 5 u) hr (by simp)
  have k2 : Keeps [44, 69] w9 (w9.setCell ⟨g, 5, none⟩ u) := Keeps.upd (Upd.setCell w9 g 5 u) hr (by simp)
  refine ⟨h.1.setCell hWg _, h.2.1.trans k2, fun h => by omega, fun h => by omega, fun h => by omega, fun _ => ⟨A', c', Am, cm, h1, h2.keeps k (by decide), h3.keeps k (by decide), fun _ => ?_⟩, fun h => by omega⟩
  have := hr.set 5 u
  rw [hC] at this
  rwa [← h1, hu]
end
/-- An end's cells: the queue's slice Q, the part's slice R. -/
def EV (e : LE) (Q R : Value) : Array Value := #[.int .i64 e.n, .int .u64 e.s, .int .u64 e.a, .int .i64 e.rn, .int .u64 e.rc, Q, .int .i64 e.off, .int .i64 e.want, R, .int .u64 e.told]
theorem results_1 {P : Program} {fn : Func} {p : Tmp} {ty1 : TypeId} {d1 : TypeDesc} (h : fn.results = #[.cell p ty1]) {tmps : Array Value} {w : World} {g1 : Nat} {t1 : TypeId} {cs1 : Array Value}
    (h1 : tmps.getD p undef = .pointer (some ⟨g1, 0, none⟩)) (r1 : Row w g1 t1 cs1) (u1 : P.underlying ty1 = some d1) (k1 : d1.isRow = true) (i1 : (P.info? ty1).map (·.size) = some cs1.size) :
    (results fn tmps).run P w = .ok (.agg cs1) w := by
  have l1 := run_loadVar_mid (P := P) w g1 0 ty1 cs1.toList d1 r1.range u1 k1 (by simpa using i1)
  simp only [Array.toArray_toList] at l1
  simp only [Array.getD_eq_getD_getElem?] at h1
  simp [results, h, h1, asAddr, l1]
theorem OwnV.lower {w : World} {base base' size : Nat} {e : TypeId} {A : Option Addr} {n c : Nat} {xs : List Value} (h : OwnV w base e size A n c xs) (hl : base' ≤ base) : OwnV w base' e size A n c xs := by
  obtain ⟨h1, h2⟩ := h
  refine ⟨h1, ?_⟩
  rcases h2 with h2 | ⟨g, cap, cur, e1, hg, r⟩
  · exact .inl h2
  · exact .inr ⟨g, cap, cur, e1, Nat.le_trans hl hg, r⟩
/-- The same, and the other boxes stay. -/
def EnqT (ia ib ic : Nat) (W w0 : World) (base g : Nat) (C : Value → Array Value) (A : Option Addr) (n c0 : Nat) (vs : List Value) (m : Nat) (bs : List UInt8) (c : Nat) (us : Nat → Value) (w' : World) : Prop :=
  EnqR ia ib ic W w0 base g C A n c0 vs m bs c us w' ∧ ∀ b' t cs, b' ≠ g → t ≠ 44 → Row w0 b' t cs → Row w' b' t cs
section
variable {ia ib ic id : Nat} {W w0 : World} {base g : Nat} {C : Value → Array Value} {A : Option Addr} {n c0 : Nat} {vs : List Value} {m : Nat} {bs : List UInt8} {us : Nat → Value} {w9 w' : World}
theorem EnqT.loc {ops : Array Oper} : ∀ c us us' w, (∀ k, mayAt ops [ia, ib, ic, id] c k = false ∨ k ∈ [ia, ib, ic, id].take c → us k = us' k) → EnqT ia ib ic W w0 base g C A n c0 vs m bs c us w → EnqT ia ib ic W w0 base g C A n c0 vs m bs c us' w := fun c us us' w hk h => ⟨EnqR.loc (id := id) c us us' w hk h.1, h.2⟩
theorem EnqT.zero (h : Below W.heap.size W w0) : EnqT ia ib ic W w0 base g C A n c0 vs m bs 0 us w0 := ⟨EnqR.zero h, fun _ _ _ _ _ h => h⟩
theorem EnqT.one (h : EnqT ia ib ic W w0 base g C A n c0 vs m bs 0 us w9) (hb : Below w9.heap.size w9 w') {Am : Option Addr} {cm : Nat} (ho : OwnB w' w9.heap.size 5 Am m cm bs) : EnqT ia ib ic W w0 base g C A n c0 vs m bs 1 (fun k => if k = ia then .slice Am m cm else us k) w' :=
  ⟨h.1.one hb ho, fun b' t cs h1 h2 h3 => (h.2 b' t cs h1 h2 h3).below hb (h.2 b' t cs h1 h2 h3).lt⟩
theorem EnqT.two (h : EnqT ia ib ic W w0 base g C A n c0 vs m bs 1 us w9) {Am : Option Addr} {cm : Nat} (ho : OwnB w9 w0.heap.size 5 Am m cm bs) : EnqT ia ib ic W w0 base g C A n c0 vs m bs 2 (fun k => if k = ib then .slice (some ⟨w9.heap.size, 0, none⟩) 1 1 else us k) (w9.alloc (.cells #[.slice Am m cm] 44)) :=
  ⟨h.1.two ho, fun b' t cs h1 h2 h3 => (h.2 b' t cs h1 h2 h3).alloc _⟩
theorem EnqT.three (h : EnqT ia ib ic W w0 base g C A n c0 vs m bs 2 us w9) (hW : W.heap.size ≤ base) (hr0 : Row w0 g 69 (C (.slice A n c0))) (hown : OwnV w9 base 44 1 A n c0 vs) {Am A' : Option Addr} {cm c' : Nat} (ho : OwnB w9 w0.heap.size 5 Am m cm bs) (h2 : OwnV w' base 44 1 A' (n + 1) c' (vs ++ [.slice Am m cm])) (h3 : w9.grownBy w' (Value.slice A n c0).ownBlock) :
    EnqT ia ib ic W w0 base g C A n c0 vs m bs 3 (fun k => if k = ic then .slice A' (n + 1) c' else us k) w' :=
  ⟨h.1.three hW hr0 hown ho h2 h3, fun b' t cs k1 k2 k3 => (Keeps.grown (ts := [44]) h3 hown.typed).row (h.2 b' t cs k1 k2 k3) (by simpa using k2)⟩
theorem EnqT.four (h : EnqT ia ib ic W w0 base g C A n c0 vs m bs 3 us w9) {u : Value} (hu : us ic = u) (hWg : W.heap.size ≤ g) (hC : ∀ v u, (C v).setIfInBounds 5 u = C u) : EnqT ia ib ic W w0 base g C A n c0 vs m bs 4 us (w9.setCell ⟨g, 5, none⟩ u) :=
  ⟨h.1.four hu hWg hC, fun b' t cs h1 h2 h3 => (h.2 b' t cs h1 h2 h3).upd (Upd.setCell w9 g 5 u) h1⟩
end
/-- The queue and the part, in memory from block lo on. -/
structure HeldO (w : World) (lo : Nat) (e : LE) (A : Option Addr) (c : Nat) (B : Option Addr) (d : Nat) : Prop where
  ex : ∃ vs, OwnV w lo 44 1 A e.q.length c vs ∧ QV w lo vs e.q
  p : OwnB w lo 5 B e.pt.length d e.pt
theorem HeldO.below {w w' : World} {lo : Nat} {e : LE} {A B : Option Addr} {c d : Nat} (h : HeldO w lo e A c B d) (hb : Below w.heap.size w w') : HeldO w' lo e A c B d := by
  obtain ⟨⟨vs, h1, h2⟩, h3⟩ := h
  exact ⟨⟨vs, h1.below hb, h2.keeps (ts := []) (Keeps.below hb) (by decide)⟩, h3.below hb⟩
theorem HeldO.keeps {ts : List TypeId} {w w' : World} {lo : Nat} {e : LE} {A B : Option Addr} {c d : Nat} (h : HeldO w lo e A c B d) (k : Keeps ts w w') (h1 : 44 ∉ ts) (h2 : 5 ∉ ts) : HeldO w' lo e A c B d := by
  obtain ⟨⟨vs, h3, h4⟩, h5⟩ := h
  exact ⟨⟨vs, h3.keeps k h1, h4.keeps k h2⟩, h5.keeps k h2⟩
theorem QV.lower {w : World} {lo lo' : Nat} {vs : List Value} {q : List (List UInt8)} (h : QV w lo vs q) (hl : lo' ≤ lo) : QV w lo' vs q := ⟨h.1, fun i hi => by
  obtain ⟨A, c, e, ho⟩ := h.2 i hi
  exact ⟨A, c, e, ho.lower hl⟩⟩
theorem HeldO.lower {w : World} {lo lo' : Nat} {e : LE} {A B : Option Addr} {c d : Nat} (h : HeldO w lo e A c B d) (hl : lo' ≤ lo) : HeldO w lo' e A c B d := by
  obtain ⟨⟨vs, h3, h4⟩, h5⟩ := h
  exact ⟨⟨vs, h3.lower hl, h4.lower hl⟩, h5.lower hl⟩
theorem HeldO.held {w : World} {lo : Nat} {e : LE} {A B : Option Addr} {c d : Nat} (h : HeldO w lo e A c B d) (hq : ∀ m ∈ e.q, m.length ≤ 9223372036854775807) : Held w e A c B d := by
  obtain ⟨⟨vs, h3, h4⟩, h5⟩ := h
  exact ⟨isM_of h3 h4 hq, h3.cap, h5.isB, h5.capM⟩
/-- The queue lies in the blocks from lo to hi. -/
def QI (w : World) (lo hi : Nat) (A : Option Addr) (n c : Nat) (q : List (List UInt8)) : Prop := hi ≤ w.heap.size ∧ n ≤ c ∧ ∀ w', (∀ g cs t fr, lo ≤ g → g < hi → w.heap[g]? = some (Obj.cells cs t fr) → t = 5 ∨ t = 44 → w'.heap[g]? = w.heap[g]?) → IsM w' A n q
theorem QI.of {w : World} {lo : Nat} {A : Option Addr} {c : Nat} {vs : List Value} {q : List (List UInt8)} (ho : OwnV w lo 44 1 A q.length c vs) (hq : QV w lo vs q) (hm : ∀ m ∈ q, m.length ≤ 1000000000) : QI w lo w.heap.size A q.length c q :=
  ⟨Nat.le_refl _, ho.cap, fun w' hw' => isM_of (ho.stay (Nat.le_refl _) hw') (hq.stay (Nat.le_refl _) hw') (fun x hx => by have := hm x hx; omega)⟩
theorem QI.stay {w w' : World} {lo hi n c : Nat} {A : Option Addr} {q : List (List UInt8)} (h : QI w lo hi A n c q) (hs : hi ≤ w'.heap.size) (hk : ∀ g cs t fr, lo ≤ g → g < hi → w.heap[g]? = some (Obj.cells cs t fr) → t = 5 ∨ t = 44 → w'.heap[g]? = w.heap[g]?) : QI w' lo hi A n c q :=
  ⟨hs, h.2.1, fun w2 h2 => h.2.2 w2 fun g cs t fr h3 h4 h5 h6 => by
    have h7 := hk g cs t fr h3 h4 h5 h6
    exact (h2 g cs t fr h3 h4 (h7.trans h5) h6).trans h7⟩
theorem QI.below {w w' : World} {lo hi n c : Nat} {A : Option Addr} {q : List (List UInt8)} (h : QI w lo hi A n c q) (hb : Below w.heap.size w w') : QI w' lo hi A n c q :=
  h.stay (Nat.le_trans h.1 hb.size) fun g _ _ _ _ h4 _ _ => hb.block g (Nat.lt_of_lt_of_le h4 h.1)
theorem QI.keeps {ts : List TypeId} {w w' : World} {lo hi n c : Nat} {A : Option Addr} {q : List (List UInt8)} (h : QI w lo hi A n c q) (k : Keeps ts w w') (n5 : 5 ∉ ts) (n44 : 44 ∉ ts) : QI w' lo hi A n c q :=
  h.stay (Nat.le_trans h.1 k.1) fun g cs t fr _ _ h5 h6 => (k.2 g t cs fr h5 (by rcases h6 with h6 | h6 <;> subst h6 <;> assumption)).trans h5.symm
theorem QI.grown {w w' : World} {lo hi n c : Nat} {A : Option Addr} {q : List (List UInt8)} {k : Option Nat} (h : QI w lo hi A n c q) (hg : w.grownBy w' k) (hk : ∀ x, k = some x → hi ≤ x) : QI w' lo hi A n c q :=
  h.stay (Nat.le_trans h.1 hg.size) fun g _ _ _ _ h4 _ _ => hg.block g (Nat.lt_of_lt_of_le h4 h.1) (fun e => by have := hk g e.symm; omega)
theorem QI.isM {w : World} {lo hi n c : Nat} {A : Option Addr} {q : List (List UInt8)} (h : QI w lo hi A n c q) : IsM w A n q := h.2.2 w fun _ _ _ _ _ _ _ _ => rfl
theorem QI.lower {w : World} {lo lo' hi n c : Nat} {A : Option Addr} {q : List (List UInt8)} (h : QI w lo hi A n c q) (hl : lo' ≤ lo) : QI w lo' hi A n c q :=
  ⟨h.1, h.2.1, fun w' hw' => h.2.2 w' fun g cs t fr h3 h4 h5 h6 => hw' g cs t fr (Nat.le_trans hl h3) h4 h5 h6⟩
theorem QI.heldI {w : World} {lo mid : Nat} {e : LE} {A B : Option Addr} {c d : Nat} (h : QI w lo mid A e.q.length c e.q) (hp : OwnB w lo 5 B e.pt.length d e.pt) : HeldI w lo w.heap.size e A c B d :=
  ⟨Nat.le_refl _, fun w' hw' => ⟨h.2.2 w' fun g cs t fr h3 h4 h5 h6 => hw' g cs t fr h3 (Nat.lt_of_lt_of_le h4 h.1) h5 h6, h.2.1, (hp.stay (Nat.le_refl _) hw').isB, hp.capM⟩⟩
/-- A copy: the part lies behind the queue. -/
def CpT (e : LE) (W : World) (en : Ending) (W' : World) : Prop := ∃ A c B d mid, en = .returned (.agg (LEV e A c B d)) ∧ HeldO W' W.heap.size e A c B d ∧ QI W' W.heap.size mid A e.q.length c e.q ∧ OwnB W' mid 5 B e.pt.length d e.pt ∧ W.heap.size ≤ mid ∧ Below W.heap.size W W'
def CpE (e : LE) (W : World) (en : Ending) (W' : World) : Prop := ∃ A c B d, en = .returned (.agg (LEV e A c B d)) ∧ HeldO W' W.heap.size e A c B d ∧ Below W.heap.size W W'
set_option maxRecDepth 100000 in
set_option maxHeartbeats 8000000 in
theorem copyT (e : LE) (A B : Option Addr) (c d : Nat) (W : World) (ht : e.ty) (hH : Held W e A c B d) : Calls Try.prog 47 #[.agg (LEV e A c B d)] W (CpT e W) := by
  have hB1 := ((Below.refl W.heap.size W).alloc (Nat.le_refl _) (.cells (LEV e A c B d) 69)).alloc (by simp) (.cells ZE 69)
  have r1 := (Row.born W 69 (LEV e A c B d)).alloc (.cells ZE 69)
  have r2 : Row ((W.alloc (.cells (LEV e A c B d) 69)).alloc (.cells ZE 69)) (W.heap.size + 1) 69 ZE := Row.bornAt (w := W.alloc (.cells (LEV e A c B d) 69)) (by simp) 69 ZE
  go_enter Try.func47, Try.ntmps47
  go_upto_region 1 with (fail)
  change Code.wp _ _ _ _ ((W.alloc (.cells (LEV e A c B d) 69)).alloc (.cells ZE 69))
  generalize ((W.alloc (.cells (LEV e A c B d) 69)).alloc (.cells ZE 69)) = w1 at *
  have hl1 := r1.lt
  have hl2 := r2.lt
  go_upto_region 2 with (first | ((with_reducible refine wp_load_g ?_ r1.range Try.underlying69 rfl (lev_info _ _ _ _ _) ?_ ?_); rfl; rfl) | ((with_reducible refine wp_row_store (L := LEV e A c B d) (Row.bornAt (g := w1.heap.size) rfl 69 _) ?_ (lev_info _ _ _ _ _) (lev_one _ _ _ _ _) ?_ ?_ ?_); rfl; rfl; rfl; intro w2 u2 r3))
  have hal := Upd.below ((Below.refl w1.heap.size w1).alloc (Nat.le_refl _) (.cells ZE 69)) u2 (Nat.le_refl _)
  have r1 := r1.below hal hl1
  have r2 := r2.below hal hl2
  have hB2 := hB1.trans (hal.mono hB1.size)
  have hg3 : W.heap.size + 1 < w1.heap.size := hl2
  clear hal u2 hB1 hl1 hl2
  generalize w1.heap.size = g at *
  have p5 : w2.cell? ⟨g, 5, none⟩ = some (.slice A e.q.length c) := r3.cell 5
  have f5 := r3.frozen 5
  go_upto_region 4 with (fail)
  have u3 := Upd.setCell w2 g 5 (.slice none 0 0)
  have r3' : Row (w2.setCell ⟨g, 5, none⟩ (.slice none 0 0)) g 69 (EV e (.slice none 0 0) (.slice B e.pt.length d)) := r3.set 5 (.slice none 0 0)
  have r1 := r1.upd u3 (by omega)
  have r2 := r2.upd u3 (by omega)
  have hB3 := Upd.below hB2 u3 (by omega)
  clear p5 f5 r3 hB2 u3
  generalize w2.setCell ⟨g, 5, none⟩ (.slice none 0 0) = w3 at *
  go_loopw [4] (fun i wr => ∃ j : Nat, ∃ A1 c1 vs, j ≤ e.q.length ∧ i = .int .i64 j ∧ Row wr W.heap.size 69 (LEV e A c B d) ∧ Row wr (W.heap.size + 1) 69 ZE ∧ Row wr g 69 (EV e (.slice A1 j c1) (.slice B e.pt.length d)) ∧ OwnV wr W.heap.size 44 1 A1 j c1 vs ∧ QV wr W.heap.size vs (e.q.take j) ∧ Below W.heap.size W wr) (fun i _ => e.q.length - (intOf i).toNat)
  case atStart => exact ⟨0, none, 0, [], by omega, rfl, r1, r2, r3', OwnV.nil _ _ _ _, QV.nil _ _, hB3⟩
  case round =>
    clear r1 r2 r3' hB3
    obtain ⟨j, A1, c1, vs, hj, rfl, r1, r2, hr, hown, hq, hB⟩ := hrel
    have c5 : wr.cell? ⟨W.heap.size, 5, none⟩ = some (.slice A e.q.length c) := r1.cell 5
    rcases Nat.lt_or_ge j e.q.length with hjl | hjl
    · have hd1 : decide (j < e.q.length) = true := by simpa using hjl
      have hji : (j : Int) < e.q.length := by omega
      have hj0 : (0 : Int) ≤ (j : Int) := by omega
      have hM := hH.q.below hB
      obtain ⟨b, o, hA, hrow'⟩ := hM.2 (by omega)
      subst hA
      obtain ⟨Ar, Cr, x, -, -, hIs⟩ := hrow' j hjl
      have hml : (e.q[j]).length ≤ 1000000000 := ht.qm _ (List.getElem_mem hjl)
      have hts : e.q.take (j + 1) = e.q.take j ++ [e.q[j]] := List.take_succ_eq_append_getElem hjl
      clear hrow' hM
      generalize e.q[j] = bs at *
      have HTS := Lib.hid hts
      clear hts
      go_upto_region 6 with (fail)
      have hBw : Below W.heap.size W wr.drew := hB.drew
      refine wp_region_late (n := 30) [7, 8, 9, 11] (EnqT 7 8 9 W wr.drew W.heap.size g (fun v => EV e v (.slice B e.pt.length d)) A1 j c1 vs bs.length bs) (fun _ _ => True) (by kernel_rfl) (by kernel_rfl) (by rfl) EnqT.loc (EnqT.zero hBw) ?_
      have hrow : Row wr.drew g 69 (EV e (.slice A1 j c1) (.slice B e.pt.length d)) := hr
      have r1 : Row wr.drew W.heap.size 69 (LEV e (some ⟨b, o, none⟩) c B d) := r1
      have r2 : Row wr.drew (W.heap.size + 1) 69 ZE := r2
      have hown : OwnV wr.drew W.heap.size 44 1 A1 j c1 vs := hown
      have hq : QV wr.drew W.heap.size vs (e.q.take j) := hq
      have hIs : IsB wr.drew Ar bs.length bs := hIs
      have x : wr.drew.cell? ⟨b, o + j, none⟩ = some (.slice Ar bs.length Cr) := x
      have hlb : b < wr.drew.heap.size := block_lt_of_cell x
      clear c5 hr
      generalize wr.drew = w5 at *
      have hlg := hrow.lt
      have hl1 := r1.lt
      have k5 : w5.cell? ⟨g, 5, none⟩ = some (.slice A1 j c1) := hrow.cell 5
      have c5 : w5.cell? ⟨W.heap.size, 5, none⟩ = some (.slice (some ⟨b, o, none⟩) e.q.length c) := r1.cell 5
      have hWb : W.heap.size ≤ W.heap.size := Nat.le_refl _
      have hWx := hBw.size
      have hWg : W.heap.size ≤ g := by omega
      have hql := ht.ql
      have hml2 : bs.length ≤ 140737488355328 := by omega
      refine late_pure (by simp) (fun _ => trivial) (v := ?_) (fun _ => rfl) ?_ ?_; rotate_left; (focus (intro c9 us w9 hm9 hS9 hF; clear hF hm9; go_simp; (try with_reducible rfl); done)); simp only [Act.put, List.setIfInBounds_toArray, List.set_cons_zero, List.set_cons_succ, Nat.reduceAdd]
      refine late_pure (by simp) (fun _ => trivial) (v := ?_) (fun _ => rfl) ?_ ?_; rotate_left; (focus (intro c9 us w9 hm9 hS9 hF; have hc9 : c9 < 3 := (by rcases Nat.lt_or_ge c9 3 with h9 | h9; exact h9; exact absurd hm9 (by rw [mayAt_no (d := 2) (by kernel_rfl) (by omega) (by decide)]; decide)); have b1 := ((hS9.1.2.2.1 (by omega)).cell (p := ⟨g, 5, none⟩) hlg).trans k5; clear hF hm9; go_simp; (try with_reducible rfl); done)); simp only [Act.put, List.setIfInBounds_toArray, List.set_cons_zero, List.set_cons_succ, Nat.reduceAdd]
      refine late_pure (by simp) (fun _ => trivial) (v := ?_) (fun _ => rfl) ?_ ?_; rotate_left; (focus (intro c9 us w9 hm9 hS9 hF; clear hF hm9; go_simp; (try with_reducible rfl); done)); simp only [Act.put, List.setIfInBounds_toArray, List.set_cons_zero, List.set_cons_succ, Nat.reduceAdd]
      refine late_pure (by simp) (fun _ => trivial) (v := ?_) (fun _ => rfl) ?_ ?_; rotate_left; (focus (intro c9 us w9 hm9 hS9 hF; have b2 : w9.cell? ⟨W.heap.size, 5, none⟩ = some (.slice (some ⟨b, o, none⟩) e.q.length c) := (hS9.2 _ _ _ (by omega) (by decide) r1).cell 5; clear hF hm9; go_simp; (try with_reducible rfl); done)); simp only [Act.put, List.setIfInBounds_toArray, List.set_cons_zero, List.set_cons_succ, Nat.reduceAdd]
      refine late_pure (by simp) (fun _ => trivial) (v := ?_) (fun _ => rfl) ?_ ?_; rotate_left; (focus (intro c9 us w9 hm9 hS9 hF; clear hF hm9; go_simp; (try with_reducible rfl); done)); simp only [Act.put, List.setIfInBounds_toArray, List.set_cons_zero, List.set_cons_succ, Nat.reduceAdd]
      refine late_pure (by simp) (fun _ => trivial) (v := ?_) (fun _ => rfl) ?_ ?_; rotate_left; (focus (intro c9 us w9 hm9 hS9 hF; clear hF hm9; go_simp; (try with_reducible rfl); done)); simp only [Act.put, List.setIfInBounds_toArray, List.set_cons_zero, List.set_cons_succ, Nat.reduceAdd]
      refine late_pure (by simp) (fun _ => trivial) (v := ?_) (fun _ => rfl) ?_ ?_; rotate_left; (focus (intro c9 us w9 hm9 hS9 hF; have hc9 : c9 < 1 := (by rcases Nat.lt_or_ge c9 1 with h9 | h9; exact h9; exact absurd hm9 (by rw [mayAt_no (d := 0) (by kernel_rfl) (by omega) (by decide)]; decide)); have b3 := ((hS9.1.2.2.1 (by omega)).cell (p := ⟨b, o + j, none⟩) hlb).trans x; clear hF hm9; go_simp; (try with_reducible rfl); done)); simp only [Act.put, List.setIfInBounds_toArray, List.set_cons_zero, List.set_cons_succ, Nat.reduceAdd]
      refine late_chain (by simp) ?_ ?_; (focus (intro us w9 hS9 hF K hK; clear hF; rw [if_pos (by rfl)]; exact step_copy_b (P := Try.prog) (c' := Cr) Try.underlying44 info_b ((hIs).below (hS9.1.2.2.1 (by omega))) hml2 rfl rfl (fun A' c'' w' h1 h2 => hK _ w' (hS9.one h2 h1) trivial))); simp only [Act.put, List.setIfInBounds_toArray, List.set_cons_zero, List.set_cons_succ, Nat.reduceAdd]
      refine late_chain (by simp) ?_ ?_; (focus (intro us w9 hS9 hF K hK; clear hF; obtain ⟨Am, cm, hu, ho⟩ := hS9.1.2.2.2.1 rfl; simp only [hu] at hK ⊢; go_simp; exact hK _ _ (hS9.two ho) trivial)); simp only [Act.put, List.setIfInBounds_toArray, List.set_cons_zero, List.set_cons_succ, Nat.reduceAdd]
      refine late_chain (by simp) ?_ ?_; (focus (intro us w9 hS9 hF K hK; clear hF; obtain ⟨Am, cm, gb, hu, hrb, ho⟩ := hS9.1.2.2.2.2.1 rfl; simp only [hu] at hK ⊢; rw [if_pos (by rfl)]; have hown9 := hown.below (hS9.1.2.2.1 (by omega)); exact step_append_v (P := Try.prog) Try.underlying67 info_44 rfl (by omega) hown9 hrb rfl (by simp [Value.oneCell']) (by omega) (by omega) (Nat.le_trans hWx hS9.1.2.1.1) rfl rfl (fun A' c'' w' h2 h3 h5 => hK _ w' (hS9.three hWb hrow hown9 ho h2 h3) trivial))); simp only [Act.put, List.setIfInBounds_toArray, List.set_cons_zero, List.set_cons_succ, Nat.reduceAdd]
      refine late_pure (by simp) (fun _ => trivial) (v := ?_) (fun _ => rfl) ?_ ?_; rotate_left; (focus (intro c9 us w9 hm9 hS9 hF; clear hF hm9; go_simp; (try with_reducible rfl); done)); simp only [Act.put, List.setIfInBounds_toArray, List.set_cons_zero, List.set_cons_succ, Nat.reduceAdd]
      refine late_store rfl ?_ ?_; (focus (intro us w9 hS9 hF K hK; clear hF; obtain ⟨A', c', Am, cm, hu, h2, h3, -⟩ := hS9.1.2.2.2.2.2.1 (by omega); simp only [hu] at hK ⊢; have hr9 := hS9.1.2.2.2.2.2.2 rfl; have k3 := hr9.cell 5; have f3 := hr9.frozen 5; simp only [EV] at k3; have hS10 := hS9.four hu hWg (fun _ _ => rfl); go_simp; exact hK _ hS10 trivial)); (try simp only [Nat.reduceAdd])
      refine late_done fun us8 w8 hS8 hF => ?_
      obtain ⟨A2, c2, Am, cm, hu8, h2, h3, hr4⟩ := hS8.1.2.2.2.2.2.1 (by omega)
      have hr4 := hr4 (by omega)
      have kk := hS8.1.2.1
      have hB8 := hS8.1.1
      clear hF
      have hq8 := (hq.keeps kk (by decide)).snoc h3 hBw.size
      have r1 := hS8.2 _ _ _ (by omega) (by decide) r1
      have r2 := hS8.2 _ _ _ (by omega) (by decide) r2
      clear hS8 c5 k5
      go_wp2
      exact ⟨⟨j + 1, A2, c2, _, by omega, by go_num, r1, r2, hr4, h2, by rw [HTS.out]; exact hq8, hB8⟩, by simp [intOf]; omega⟩
    · obtain rfl : j = e.q.length := by omega
      have hd1 : decide (e.q.length < e.q.length) = false := by simp
      rw [List.take_length] at hq
      have hIp := hH.p.below hB
      have hpl := ht.pl
      have c8 : wr.cell? ⟨W.heap.size, 8, none⟩ = some (.slice B e.pt.length d) := r1.cell 8
      have hlg := hr.lt
      have hl2 := r2.lt
      have hoz := OwnB.nil wr wr.heap.size 5
      go_upto_region 7 with (fail)
      clear c5
      go_upto_region 8 with (at_builtin; (refine wp_append_b (P := Try.prog) rfl _ _ 44 rfl Try.underlying44 info_b hoz hIp (by omega) (Nat.le_refl _) rfl rfl ?_); intro A2 n2 c2 w6 hn2 ho2 hb6 hg6 hat6; have hr := hr.below hb6 hlg; have r2 := r2.below hb6 hl2; have k8 : w6.cell? ⟨g, 8, none⟩ = some (.slice B e.pt.length d) := hr.cell 8; have f8 := hr.frozen 8)
      have hq2 := hn2.out
      rw [Nat.zero_add] at hq2
      subst hq2
      simp only [List.nil_append] at ho2
      have hmid : W.heap.size ≤ wr.heap.size := hB.size
      have hqi := QI.of hown hq ht.qm
      have hB6 := hB.trans (hb6.mono hB.size)
      have hqi := hqi.below hb6
      have hown6 := hown.below hb6
      have hq6 := hq.keeps (ts := []) (Keeps.below hb6) (by decide)
      have uq7 := Upd.setCell w6 g 8 (.slice A2 e.pt.length c2)
      have rg : Row (w6.setCell ⟨g, 8, none⟩ (.slice A2 e.pt.length c2)) g 69 (LEV e A1 c1 A2 c2) := hr.set 8 (.slice A2 e.pt.length c2)
      have k7 := Keeps.upd (ts := [69]) uq7 hr (by simp)
      have ho2 := ho2.keeps k7 (by decide)
      have hqi := hqi.keeps k7 (by decide) (by decide)
      have hown6 := hown6.keeps k7 (by decide)
      have hq6 := hq6.keeps k7 (by decide)
      have r2 := r2.upd uq7 (by omega)
      have hB7 := Upd.below hB6 uq7 (by omega)
      clear k8 f8 hr hB6 uq7 k7 hoz hb6 hg6 hat6 hn2 c8 r1
      generalize w6.setCell ⟨g, 8, none⟩ (.slice A2 e.pt.length c2) = w7 at *
      go_wp2_with (first | ((with_reducible refine wp_load_g ?_ rg.range Try.underlying69 rfl (lev_info _ _ _ _ _) ?_ ?_); rfl; rfl) | ((with_reducible refine wp_row_store (L := LEV e A1 c1 A2 c2) r2 rfl (lev_info _ _ _ _ _) (lev_one _ _ _ _ _) ?_ ?_ ?_); rfl; rfl; intro w8 uq8 r8))
      have k8 := Keeps.upd (ts := [69]) uq8 r2 (by simp)
      refine bodyPost_ret (results_1 rfl rfl r8 Try.underlying69 rfl (lev_info _ _ _ _ _)) rfl ?_
      exact ⟨A1, c1, A2, c2, wr.heap.size, rfl, ⟨⟨vs, hown6.keeps k8 (by decide), hq6.keeps k8 (by decide)⟩, (ho2.lower hmid).keeps k8 (by decide)⟩, hqi.keeps k8 (by decide) (by decide), ho2.keeps k8 (by decide), hmid, Upd.below hB7 uq8 (by omega)⟩
theorem copyL (e : LE) (A B : Option Addr) (c d : Nat) (W : World) (ht : e.ty) (hH : Held W e A c B d) : Calls Try.prog 47 #[.agg (LEV e A c B d)] W (CpE e W) := (copyT e A B c d W ht hH).mono fun en W' ⟨A, c, B, d, mid, h1, h2, h3, h4, h5, h6⟩ => ⟨A, c, B, d, h1, h2, h6⟩
end
section
open Go.RowKit
set_option linter.unusedVariables false
set_option linter.unusedSimpArgs false
theorem lines_is {n : Int} {b : Bool} (hv : vl n = b) (W : World) : Calls Try.prog 33 #[.int .i64 n] W fun e W' => e = .returned (.bool b) ∧ W = W' := by
  subst hv
  exact lines_ref n W
theorem g27 : Try.prog.eqGuardType Try.prog.depth 27 = false := by kernel_rfl
theorem g35 : Try.prog.eqGuardType Try.prog.depth 35 = false := by kernel_rfl
theorem eq27 (w : World) (n s a : Int) : (Op.equalIn 10000 27 (.agg #[.int .i64 n, .int .u64 s, .int .u64 a]) (.agg #[.int .i64 n, .int .u64 s, .int .u64 a])).run Try.prog w = .ok true w := by
  go_simp
theorem eq35 (w : World) (n s : Int) : (Op.equalIn 10000 35 (.agg #[.int .i64 n, .int .u64 s]) (.agg #[.int .i64 n, .int .u64 s])).run Try.prog w = .ok true w := by
  go_simp
set_option maxRecDepth 100000 in
set_option maxHeartbeats 8000000 in
theorem newL_no (n : Int) (W : World) (hv : vl n = false) : Calls Try.prog 48 #[.int .i64 n] W (NwP n W) := by
  have E1 := Lib.hid (show nsE n = 6 by simp [nsE, hv])
  have HN := Lib.hid (show nwE n = zeL by simp [nwE, hv])
  have HV := Lib.hid hv
  clear hv
  have hB1 := (Below.refl W.heap.size W).alloc (Nat.le_refl _) (.cells ZE 69)
  have r1 := Row.born W 69 ZE
  go_enter Try.func48, Try.ntmps48
  go_upto_region 1 with (fail)
  change Code.wp _ _ _ _ (W.alloc (.cells ZE 69))
  generalize W.alloc (.cells ZE 69) = w1 at *
  go_wp2_with (first | (go_at_call 33; (with_reducible refine (lines_is HV.out _).mono ?_); rintro en w' ⟨rfl, h9⟩; rw [← h9]; clear h9) | ((with_reducible refine wp_row_store (L := ZE) r1 rfl ze_info ze_one ?_ ?_ ?_); rfl; rfl; intro w4 v4 r4))
  refine bodyPost_ret (results_ct rfl rfl r4 Try.underlying69 rfl ze_info) rfl ?_
  refine ⟨?_, Upd.below hB1 v4 (Nat.le_refl _)⟩
  rw [HN.out, E1.out]
  rfl
set_option maxRecDepth 100000 in
set_option maxHeartbeats 8000000 in
theorem newL_yes (n : Int) (W : World) (hv : vl n = true) : Calls Try.prog 48 #[.int .i64 n] W (NwP n W) := by
  have E1 := Lib.hid (show nsE n = 0 by simp [nsE, hv])
  have HN := Lib.hid (show nwE n = newL n by simp [nwE, hv])
  have HV := Lib.hid hv
  clear hv
  have hB1 := (Below.refl W.heap.size W).alloc (Nat.le_refl _) (.cells ZE 69)
  have r1 := Row.born W 69 ZE
  go_enter Try.func48, Try.ntmps48
  go_upto_region 1 with (fail)
  change Code.wp _ _ _ _ (W.alloc (.cells ZE 69))
  generalize W.alloc (.cells ZE 69) = w1 at *
  go_wp2_with (first | (go_at_call 33; (with_reducible refine (lines_is HV.out _).mono ?_); rintro en w' ⟨rfl, h9⟩; rw [← h9]; clear h9) | ((with_reducible refine wp_row_store (L := LEV (newL n) none 0 none 0) r1 rfl (lev_info _ _ _ _ _) (lev_one _ _ _ _ _) ?_ ?_ ?_); rfl; rfl; intro w4 v4 r4))
  refine bodyPost_ret (results_ct rfl rfl r4 Try.underlying69 rfl (lev_info _ _ _ _ _)) rfl ?_
  refine ⟨?_, Upd.below hB1 v4 (Nat.le_refl _)⟩
  rw [HN.out, E1.out]
  rfl
theorem newL_any (n : Int) (W : World) : Calls Try.prog 48 #[.int .i64 n] W (NwP n W) := by
  cases hv : vl n
  · exact newL_no n W hv
  · exact newL_yes n W hv
set_option maxRecDepth 100000 in
set_option maxHeartbeats 8000000 in
theorem same_l {e e' : LE} (he : e = e') {A B A' B' : Option Addr} {c d c' d' : Nat} {W : World} (hql : e.q.length ≤ 1000000) (hH : Held W e A c B d) (hH' : Held W e' A' c' B' d') : Calls Try.prog 53 #[.agg (LEV e A c B d), .agg (LEV e' A' c' B' d')] W (True1 W) := by
  subst he
  have hB1 := ((Below.refl W.heap.size W).alloc (Nat.le_refl _) (.cells (LEV e A c B d) 69)).alloc (by simp) (.cells (LEV e A' c' B' d') 69)
  have r1 := (Row.born W 69 (LEV e A c B d)).alloc (.cells (LEV e A' c' B' d') 69)
  have r2 : Row ((W.alloc (.cells (LEV e A c B d) 69)).alloc (.cells (LEV e A' c' B' d') 69)) (W.heap.size + 1) 69 (LEV e A' c' B' d') := Row.bornAt (w := W.alloc (.cells (LEV e A c B d) 69)) (by simp) 69 _
  go_enter Try.func53, Try.ntmps53
  go_upto_region 1 with (fail)
  generalize ((W.alloc (.cells (LEV e A c B d) 69)).alloc (.cells (LEV e A' c' B' d') 69)) = w1 at *
  have hl1 := r1.lt
  have hl2 := r2.lt
  obtain ⟨⟨c0, c1, c2, c3, c4⟩, ⟨c5, c6, c7, c8, c9⟩, fz⟩ := end_cells r1
  obtain ⟨⟨d0, d1, d2, d3, d4⟩, ⟨d5, d6, d7, d8, d9⟩, fy⟩ := end_cells r2
  have s1 := run_str (P := Try.prog) (w := w1) (dst := 9) Try.underlying44 Try.underlying5 Try.underlying9 d (hH.p.below hB1)
  have s2 := run_str (P := Try.prog) (w := w1) (dst := 9) Try.underlying44 Try.underlying5 Try.underlying9 d' (hH'.p.below hB1)
  go_upto_region 4 with (first | ((with_reducible refine wp_neq_g ?_ g27 (eq27 _ _ _ _) ?_ ?_ ?_); rfl; rfl; rfl) | ((with_reducible refine wp_neq_g ?_ g35 (eq35 _ _ _) ?_ ?_ ?_); rfl; rfl; rfl))
  clear c0 c1 c2 c3 c4 c5 c6 c7 c8 c9 fz d0 d1 d2 d3 d4 d5 d6 d7 d8 d9 fy s1 s2
  go_loopw [5] (fun i wr => ∃ j : Nat, j ≤ e.q.length ∧ i = .int .i64 j ∧ Below w1.heap.size w1 wr) (fun i _ => e.q.length - (intOf i).toNat)
  case atStart => exact ⟨0, by omega, rfl, Below.refl _ _⟩
  case round =>
    obtain ⟨j, hj, rfl, hBl⟩ := hrel
    have hB := hB1.trans (hBl.mono hB1.size)
    have r1 := r1.below hBl hl1
    have r2 := r2.below hBl hl2
    have c5 : wr.cell? ⟨W.heap.size, 5, none⟩ = some (.slice A e.q.length c) := r1.cell 5
    have d5 : wr.cell? ⟨W.heap.size + 1, 5, none⟩ = some (.slice A' e.q.length c') := r2.cell 5
    rcases Nat.lt_or_ge j e.q.length with hjl | hjl
    · have hd1 : decide (j < e.q.length) = true := by simpa using hjl
      have hdi : decide ((j : Int) < (e.q.length : Int)) = true := decide_eq_true (by omega)
      have hji : (j : Int) < e.q.length := by omega
      have hj0 : (0 : Int) ≤ (j : Int) := by omega
      have hM := hH.q.below hB
      have hM' := hH'.q.below hB
      obtain ⟨b, o, hA, hrow⟩ := hM.2 (by omega)
      obtain ⟨b', o', hA', hrow'⟩ := hM'.2 (by omega)
      subst hA hA'
      obtain ⟨Ar, Cr, x, -, -, hIs⟩ := hrow j hjl
      obtain ⟨Ar', Cr', x', -, -, hIs'⟩ := hrow' j hjl
      clear hrow hrow' hM hM'
      generalize e.q[j] = bs at *
      go_upto_region 6 with (fail)
      have x : wr.drew.cell? ⟨b, o + j, none⟩ = some (.slice Ar bs.length Cr) := x
      have x' : wr.drew.cell? ⟨b', o' + j, none⟩ = some (.slice Ar' bs.length Cr') := x'
      have c5 : wr.drew.cell? ⟨W.heap.size, 5, none⟩ = some (.slice (some ⟨b, o, none⟩) e.q.length c) := c5
      have d5 : wr.drew.cell? ⟨W.heap.size + 1, 5, none⟩ = some (.slice (some ⟨b', o', none⟩) e.q.length c') := d5
      have hIs : IsB wr.drew Ar bs.length bs := hIs
      have hIs' : IsB wr.drew Ar' bs.length bs := hIs'
      have s1 := run_str (P := Try.prog) (w := wr.drew) (dst := 9) Try.underlying44 Try.underlying5 Try.underlying9 Cr (hIs)
      have s2 := run_str (P := Try.prog) (w := wr.drew) (dst := 9) Try.underlying44 Try.underlying5 Try.underlying9 Cr' (hIs')
      refine wp_region_told (n := 77) (fun w' => w' = wr.drew) (fun _ _ => True) (by kernel_rfl) (by kernel_rfl) (by rfl) rfl ?_
      repeat (first | (refine walk_pure (v := ?_) (fun _ => trivial) (fun _ => rfl) ?_ ?_; rotate_left; (focus (intro us w9 hS9 hF; subst hS9; clear hF; go_simp; (try with_reducible rfl); done)); simp only [Act.put, List.setIfInBounds_toArray, List.set_cons_zero, List.set_cons_succ, Nat.reduceAdd]) | (refine walk_skip (fun _ => trivial) (fun _ => rfl) ?_; simp only [Act.put, List.setIfInBounds_toArray, List.set_cons_zero, List.set_cons_succ, Nat.reduceAdd]))
      refine walk_done fun us w9 hS9 hF => ?_
      subst hS9
      clear hF
      go_wp2
      exact ⟨⟨j + 1, by omega, by go_num, hBl.drew⟩, by simp [intOf]; omega⟩
    · have hd1 : decide (j < e.q.length) = false := by simpa using hjl
      have hdi : decide ((j : Int) < (e.q.length : Int)) = false := decide_eq_false (by omega)
      clear hjl
      go_wp2
      go_ret
      exact ⟨rfl, hB⟩
def EnR (e : LE) (m : List UInt8) (W : World) (en : Ending) (W' : World) : Prop := ∃ A c B d, en = .returned (.tuple #[.agg (LEV (enqL e m) A c B d), .int .i64 (enqE e m)]) ∧ HeldO W' W.heap.size (enqL e m) A c B d ∧ Below W.heap.size W W'
theorem heldO_0 (w : World) (lo : Nat) : HeldO w lo zeL none 0 none 0 := ⟨⟨[], OwnV.nil _ _ _ _, QV.nil _ _⟩, OwnB.nil _ _ _⟩
theorem enr_no {e : LE} {m : List UInt8} {E : Int} (h : enqE e m = E) (hE : E ≠ 0) {W W' : World} (hb : Below W.heap.size W W') : EnR e m W (.returned (.tuple #[.agg ZE, .int .i64 E])) W' := by
  have hl : enqL e m = zeL := by unfold enqL; rw [h, if_neg hE]
  exact ⟨none, 0, none, 0, by rw [hl, h]; rfl, by rw [hl]; exact heldO_0 _ _, hb⟩
theorem vE_len {e : LE} (h : vE e = true) : e.q.length ≤ 64 := by
  unfold vE soundB at h
  simp at h
  omega
set_option maxRecDepth 100000 in
set_option maxHeartbeats 8000000 in
theorem enr_v (e : LE) (A B : Option Addr) (c d : Nat) (Am : Option Addr) (cm : Nat) (m : List UInt8) (W : World) (ht : e.ty) (hH : Held W e A c B d) (hm : IsB W Am m.length m) (hv : vE e = false) : Calls Try.prog 49 #[.agg (LEV e A c B d), .slice Am m.length cm] W (EnR e m W) := by
  have HE := Lib.hid (show enqE e m = 74 by unfold enqE; rw [hv]; simp)
  have HV := Lib.hid hv
  clear hv
  have hB1 := ((Below.refl W.heap.size W).alloc (Nat.le_refl _) (.cells (LEV e A c B d) 69)).alloc (by simp) (.cells ZE 69)
  have r1 := (Row.born W 69 (LEV e A c B d)).alloc (.cells ZE 69)
  have r2 : Row ((W.alloc (.cells (LEV e A c B d) 69)).alloc (.cells ZE 69)) (W.heap.size + 1) 69 ZE := Row.bornAt (w := W.alloc (.cells (LEV e A c B d) 69)) (by simp) 69 ZE
  go_enter Try.func49, Try.ntmps49
  go_upto_region 1 with (fail)
  change Code.wp _ _ _ _ ((W.alloc (.cells (LEV e A c B d) 69)).alloc (.cells ZE 69))
  generalize (W.alloc (.cells (LEV e A c B d) 69)).alloc (.cells ZE 69) = w1 at *
  have hl1 := r1.lt
  have hl2 := r2.lt
  have hH1 := hH.below hB1
  go_wp2_with (first | ((with_reducible refine wp_load_g ?_ r1.range Try.underlying69 rfl (lev_info _ _ _ _ _) ?_ ?_); rfl; rfl) | (go_at_call 106; (with_reducible refine (end_is HV.out ht hH1).mono ?_); rintro en w2 ⟨rfl, hb2⟩; have r1 := r1.below hb2 hl1; have r2 := r2.below hb2 hl2; have hB2 := hB1.trans (hb2.mono hB1.size); have hl1 := r1.lt; have hl2 := r2.lt; have c5 : w2.cell? ⟨W.heap.size, 5, none⟩ = some (.slice A e.q.length c) := r1.cell 5) | ((with_reducible refine wp_row_store (L := ZE) r2 rfl ze_info ze_one ?_ ?_ ?_); rfl; rfl; intro w9 v9 r9))
  refine bodyPost_ret (results_ct rfl rfl r9 Try.underlying69 rfl ze_info) rfl ?_
  exact enr_no HE.out (by decide) (Upd.below hB2 v9 (by omega))
set_option maxRecDepth 100000 in
set_option maxHeartbeats 8000000 in
theorem enr_m (e : LE) (A B : Option Addr) (c d : Nat) (Am : Option Addr) (cm : Nat) (m : List UInt8) (W : World) (ht : e.ty) (hH : Held W e A c B d) (hm : IsB W Am m.length m) (hv : vE e = true) (h1 : 1048576 < m.length) : Calls Try.prog 49 #[.agg (LEV e A c B d), .slice Am m.length cm] W (EnR e m W) := by
  have HE := Lib.hid (show enqE e m = 67 by unfold enqE; rw [if_pos hv, if_pos h1])
  have HV := Lib.hid hv
  have d1 : decide (1048576 < m.length) = true := decide_eq_true h1
  have d1i : decide ((1048576 : Int) < (m.length : Int)) = true := decide_eq_true (by omega)
  clear hv h1
  have hB1 := ((Below.refl W.heap.size W).alloc (Nat.le_refl _) (.cells (LEV e A c B d) 69)).alloc (by simp) (.cells ZE 69)
  have r1 := (Row.born W 69 (LEV e A c B d)).alloc (.cells ZE 69)
  have r2 : Row ((W.alloc (.cells (LEV e A c B d) 69)).alloc (.cells ZE 69)) (W.heap.size + 1) 69 ZE := Row.bornAt (w := W.alloc (.cells (LEV e A c B d) 69)) (by simp) 69 ZE
  go_enter Try.func49, Try.ntmps49
  go_upto_region 1 with (fail)
  change Code.wp _ _ _ _ ((W.alloc (.cells (LEV e A c B d) 69)).alloc (.cells ZE 69))
  generalize (W.alloc (.cells (LEV e A c B d) 69)).alloc (.cells ZE 69) = w1 at *
  have hl1 := r1.lt
  have hl2 := r2.lt
  have hH1 := hH.below hB1
  go_wp2_with (first | ((with_reducible refine wp_load_g ?_ r1.range Try.underlying69 rfl (lev_info _ _ _ _ _) ?_ ?_); rfl; rfl) | (go_at_call 106; (with_reducible refine (end_is HV.out ht hH1).mono ?_); rintro en w2 ⟨rfl, hb2⟩; have r1 := r1.below hb2 hl1; have r2 := r2.below hb2 hl2; have hB2 := hB1.trans (hb2.mono hB1.size); have hl1 := r1.lt; have hl2 := r2.lt; have c5 : w2.cell? ⟨W.heap.size, 5, none⟩ = some (.slice A e.q.length c) := r1.cell 5) | ((with_reducible refine wp_row_store (L := ZE) r2 rfl ze_info ze_one ?_ ?_ ?_); rfl; rfl; intro w9 v9 r9))
  refine bodyPost_ret (results_ct rfl rfl r9 Try.underlying69 rfl ze_info) rfl ?_
  exact enr_no HE.out (by decide) (Upd.below hB2 v9 (by omega))
set_option maxRecDepth 100000 in
set_option maxHeartbeats 8000000 in
theorem enr_q (e : LE) (A B : Option Addr) (c d : Nat) (Am : Option Addr) (cm : Nat) (m : List UInt8) (W : World) (ht : e.ty) (hH : Held W e A c B d) (hm : IsB W Am m.length m) (hv : vE e = true) (h1 : m.length ≤ 1048576) (h2 : e.q.length = 64) : Calls Try.prog 49 #[.agg (LEV e A c B d), .slice Am m.length cm] W (EnR e m W) := by
  have HE := Lib.hid (show enqE e m = 65 by unfold enqE; rw [if_pos hv, if_neg (by omega), if_pos h2])
  have HV := Lib.hid hv
  have d1 : decide (1048576 < m.length) = false := decide_eq_false (by omega)
  have d1i : decide ((1048576 : Int) < (m.length : Int)) = false := decide_eq_false (by omega)
  have d2 : decide (64 ≤ e.q.length) = true := decide_eq_true (by omega)
  have d2i : decide ((64 : Int) ≤ (e.q.length : Int)) = true := decide_eq_true (by omega)
  clear hv h1 h2
  have hB1 := ((Below.refl W.heap.size W).alloc (Nat.le_refl _) (.cells (LEV e A c B d) 69)).alloc (by simp) (.cells ZE 69)
  have r1 := (Row.born W 69 (LEV e A c B d)).alloc (.cells ZE 69)
  have r2 : Row ((W.alloc (.cells (LEV e A c B d) 69)).alloc (.cells ZE 69)) (W.heap.size + 1) 69 ZE := Row.bornAt (w := W.alloc (.cells (LEV e A c B d) 69)) (by simp) 69 ZE
  go_enter Try.func49, Try.ntmps49
  go_upto_region 1 with (fail)
  change Code.wp _ _ _ _ ((W.alloc (.cells (LEV e A c B d) 69)).alloc (.cells ZE 69))
  generalize (W.alloc (.cells (LEV e A c B d) 69)).alloc (.cells ZE 69) = w1 at *
  have hl1 := r1.lt
  have hl2 := r2.lt
  have hH1 := hH.below hB1
  go_wp2_with (first | ((with_reducible refine wp_load_g ?_ r1.range Try.underlying69 rfl (lev_info _ _ _ _ _) ?_ ?_); rfl; rfl) | (go_at_call 106; (with_reducible refine (end_is HV.out ht hH1).mono ?_); rintro en w2 ⟨rfl, hb2⟩; have r1 := r1.below hb2 hl1; have r2 := r2.below hb2 hl2; have hB2 := hB1.trans (hb2.mono hB1.size); have hl1 := r1.lt; have hl2 := r2.lt; have c5 : w2.cell? ⟨W.heap.size, 5, none⟩ = some (.slice A e.q.length c) := r1.cell 5) | ((with_reducible refine wp_row_store (L := ZE) r2 rfl ze_info ze_one ?_ ?_ ?_); rfl; rfl; intro w9 v9 r9))
  refine bodyPost_ret (results_ct rfl rfl r9 Try.underlying69 rfl ze_info) rfl ?_
  exact enr_no HE.out (by decide) (Upd.below hB2 v9 (by omega))
set_option maxRecDepth 100000 in
set_option maxHeartbeats 8000000 in
theorem enr_ok (e : LE) (A B : Option Addr) (c d : Nat) (Am : Option Addr) (cm : Nat) (m : List UInt8) (W : World) (ht : e.ty) (hH : Held W e A c B d) (hm : IsB W Am m.length m) (hv : vE e = true) (h1 : m.length ≤ 1048576) (h2 : e.q.length ≠ 64) : Calls Try.prog 49 #[.agg (LEV e A c B d), .slice Am m.length cm] W (EnR e m W) := by
  have hq64 := vE_len hv
  have HE := Lib.hid (show enqE e m = 0 by unfold enqE; rw [if_pos hv, if_neg (by omega), if_neg h2])
  have HL := Lib.hid (show enqL e m = { e with q := e.q ++ [m] } by unfold enqL; rw [if_pos HE.out])
  have HV := Lib.hid hv
  have d1 : decide (1048576 < m.length) = false := decide_eq_false (by omega)
  have d1i : decide ((1048576 : Int) < (m.length : Int)) = false := decide_eq_false (by omega)
  have d2 : decide (64 ≤ e.q.length) = false := decide_eq_false (by omega)
  have d2i : decide ((64 : Int) ≤ (e.q.length : Int)) = false := decide_eq_false (by omega)
  clear hv h2
  have hB1 := ((Below.refl W.heap.size W).alloc (Nat.le_refl _) (.cells (LEV e A c B d) 69)).alloc (by simp) (.cells ZE 69)
  have r1 := (Row.born W 69 (LEV e A c B d)).alloc (.cells ZE 69)
  have r2 : Row ((W.alloc (.cells (LEV e A c B d) 69)).alloc (.cells ZE 69)) (W.heap.size + 1) 69 ZE := Row.bornAt (w := W.alloc (.cells (LEV e A c B d) 69)) (by simp) 69 ZE
  go_enter Try.func49, Try.ntmps49
  go_upto_region 1 with (fail)
  change Code.wp _ _ _ _ ((W.alloc (.cells (LEV e A c B d) 69)).alloc (.cells ZE 69))
  generalize (W.alloc (.cells (LEV e A c B d) 69)).alloc (.cells ZE 69) = w1 at *
  have hl1 := r1.lt
  have hl2 := r2.lt
  have hH1 := hH.below hB1
  go_upto_region 7 with (first | ((with_reducible refine wp_load_g ?_ r1.range Try.underlying69 rfl (lev_info _ _ _ _ _) ?_ ?_); rfl; rfl) | (go_at_call 106; (with_reducible refine (end_is HV.out ht hH1).mono ?_); rintro en w2 ⟨rfl, hb2⟩; have r1 := r1.below hb2 hl1; have r2 := r2.below hb2 hl2; have hB2 := hB1.trans (hb2.mono hB1.size); have hl1 := r1.lt; have hl2 := r2.lt; have c5 : w2.cell? ⟨W.heap.size, 5, none⟩ = some (.slice A e.q.length c) := r1.cell 5))
  have hH2 := hH.below hB2
  clear c5 d1 d1i d2 d2i
  go_upto_region 8 with (first | ((with_reducible refine wp_load_g ?_ r1.range Try.underlying69 rfl (lev_info _ _ _ _ _) ?_ ?_); rfl; rfl) | (go_at_call 47; (with_reducible refine (copyL e A B c d _ ht hH2).mono ?_); rintro en w4 ⟨A4, c4, B4, d4, rfl, ho, hb4⟩) | ((with_reducible refine wp_row_store (L := LEV e A4 c4 B4 d4) (Row.bornAt (g := w4.heap.size) rfl 69 _) ?_ (lev_info _ _ _ _ _) (lev_one _ _ _ _ _) ?_ ?_ ?_); rfl; rfl; rfl; intro w5 v5 r5))
  have hal := Upd.below ((Below.refl w4.heap.size w4).alloc (Nat.le_refl _) (.cells ZE 69)) v5 (Nat.le_refl _)
  have hbl := hb4.trans (hal.mono hb4.size)
  have r2 := r2.below hbl hl2
  have hB5 := hB2.trans (hbl.mono hB2.size)
  have ho := (ho.below hal).lower hB2.size
  have hg : W.heap.size + 1 < w4.heap.size := Nat.lt_of_lt_of_le hl2 hb4.size
  clear hal hbl hb4 v5 r1 hl1 hl2 hH2 hH1 hB2 hb2
  generalize w4.heap.size = g at *
  obtain ⟨⟨vs, hown, hq⟩, hp⟩ := ho
  have hBw : Below W.heap.size W w5.drew := hB5.drew
  have hrow : Row w5.drew g 69 (EV e (.slice A4 e.q.length c4) (.slice B4 e.pt.length d4)) := r5
  have hown : OwnV w5.drew W.heap.size 44 1 A4 e.q.length c4 vs := hown
  have hq : QV w5.drew W.heap.size vs e.q := hq
  have hp : OwnB w5.drew W.heap.size 5 B4 e.pt.length d4 e.pt := hp
  have r2 : Row w5.drew (W.heap.size + 1) 69 ZE := r2
  have hIs := hm.below hBw
  refine wp_region_late (n := 33) [3, 4, 5, 7] (EnqT 3 4 5 W w5.drew W.heap.size g (fun v => EV e v (.slice B4 e.pt.length d4)) A4 e.q.length c4 vs m.length m) (fun _ _ => True) (by kernel_rfl) (by kernel_rfl) (by rfl) EnqT.loc (EnqT.zero hBw) ?_
  clear hB5 r5
  generalize w5.drew = w6 at *
  have hlg := hrow.lt
  have k5 : w6.cell? ⟨g, 5, none⟩ = some (.slice A4 e.q.length c4) := hrow.cell 5
  have hWb : W.heap.size ≤ W.heap.size := Nat.le_refl _
  have hWx := hBw.size
  have hWg : W.heap.size ≤ g := by omega
  have hml2 : m.length ≤ 140737488355328 := by omega
  refine late_pure (by simp) (fun _ => trivial) (v := ?_) (fun _ => rfl) ?_ ?_; rotate_left; (focus (intro c9 us w9 hm9 hS9 hF; clear hF hm9; go_simp; (try with_reducible rfl); done)); simp only [Act.put, List.setIfInBounds_toArray, List.set_cons_zero, List.set_cons_succ, Nat.reduceAdd]
  refine late_pure (by simp) (fun _ => trivial) (v := ?_) (fun _ => rfl) ?_ ?_; rotate_left; (focus (intro c9 us w9 hm9 hS9 hF; have hc9 : c9 < 3 := (by rcases Nat.lt_or_ge c9 3 with h9 | h9; exact h9; exact absurd hm9 (by rw [mayAt_no (d := 2) (by kernel_rfl) (by omega) (by decide)]; decide)); have b1 := ((hS9.1.2.2.1 (by omega)).cell (p := ⟨g, 5, none⟩) hlg).trans k5; clear hF hm9; go_simp; (try with_reducible rfl); done)); simp only [Act.put, List.setIfInBounds_toArray, List.set_cons_zero, List.set_cons_succ, Nat.reduceAdd]
  refine late_pure (by simp) (fun _ => trivial) (v := ?_) (fun _ => rfl) ?_ ?_; rotate_left; (focus (intro c9 us w9 hm9 hS9 hF; clear hF hm9; go_simp; (try with_reducible rfl); done)); simp only [Act.put, List.setIfInBounds_toArray, List.set_cons_zero, List.set_cons_succ, Nat.reduceAdd]
  refine late_chain (by simp) ?_ ?_; (focus (intro us w9 hS9 hF K hK; clear hF; rw [if_pos (by rfl)]; exact step_copy_b (P := Try.prog) (c' := cm) Try.underlying44 info_b ((hIs).below (hS9.1.2.2.1 (by omega))) hml2 rfl rfl (fun A' c'' w' h1 h2 => hK _ w' (hS9.one h2 h1) trivial))); simp only [Act.put, List.setIfInBounds_toArray, List.set_cons_zero, List.set_cons_succ, Nat.reduceAdd]
  refine late_chain (by simp) ?_ ?_; (focus (intro us w9 hS9 hF K hK; clear hF; obtain ⟨Am, cm, hu, ho⟩ := hS9.1.2.2.2.1 rfl; simp only [hu] at hK ⊢; go_simp; exact hK _ _ (hS9.two ho) trivial)); simp only [Act.put, List.setIfInBounds_toArray, List.set_cons_zero, List.set_cons_succ, Nat.reduceAdd]
  refine late_chain (by simp) ?_ ?_; (focus (intro us w9 hS9 hF K hK; clear hF; obtain ⟨Am, cm, gb, hu, hrb, ho⟩ := hS9.1.2.2.2.2.1 rfl; simp only [hu] at hK ⊢; rw [if_pos (by rfl)]; have hown9 := hown.below (hS9.1.2.2.1 (by omega)); exact step_append_v (P := Try.prog) Try.underlying67 info_44 rfl (by omega) hown9 hrb rfl (by simp [Value.oneCell']) (by omega) (by omega) (Nat.le_trans hWx hS9.1.2.1.1) rfl rfl (fun A' c'' w' h2 h3 h5 => hK _ w' (hS9.three hWb hrow hown9 ho h2 h3) trivial))); simp only [Act.put, List.setIfInBounds_toArray, List.set_cons_zero, List.set_cons_succ, Nat.reduceAdd]
  refine late_pure (by simp) (fun _ => trivial) (v := ?_) (fun _ => rfl) ?_ ?_; rotate_left; (focus (intro c9 us w9 hm9 hS9 hF; clear hF hm9; go_simp; (try with_reducible rfl); done)); simp only [Act.put, List.setIfInBounds_toArray, List.set_cons_zero, List.set_cons_succ, Nat.reduceAdd]
  refine late_store rfl ?_ ?_; (focus (intro us w9 hS9 hF K hK; clear hF; obtain ⟨A', c', Am, cm, hu, h2, h3, -⟩ := hS9.1.2.2.2.2.2.1 (by omega); simp only [hu] at hK ⊢; have hr9 := hS9.1.2.2.2.2.2.2 rfl; have k3 := hr9.cell 5; have f3 := hr9.frozen 5; simp only [EV] at k3; have hS10 := hS9.four hu hWg (fun _ _ => rfl); go_simp; exact hK _ hS10 trivial)); (try simp only [Nat.reduceAdd])
  refine late_done fun us8 w8 hS8 hF => ?_
  obtain ⟨A2, c2, Am2, cm2, hu8, h2, h3, hr4⟩ := hS8.1.2.2.2.2.2.1 (by omega)
  have hr4 := hr4 (by omega)
  have kk := hS8.1.2.1
  have hB8 := hS8.1.1
  have r2 := hS8.2 _ _ _ (by omega) (by decide) r2
  have hq8 := (hq.keeps kk (by decide)).snoc h3 hBw.size
  have hp8 := hp.keeps kk (by decide)
  clear hF hS8 k5
  have hn1 : (e.q ++ [m]).length = e.q.length + 1 := by simp
  have rg : Row w8 g 69 (LEV { e with q := e.q ++ [m] } A2 c2 B4 d4) := by
    have h9 : LEV { e with q := e.q ++ [m] } A2 c2 B4 d4 = EV e (.slice A2 (e.q.length + 1) c2) (.slice B4 e.pt.length d4) := by simp [LEV, EV]
    rw [h9]
    exact hr4
  clear hr4
  go_wp2_with (first | ((with_reducible refine wp_load_g ?_ rg.range Try.underlying69 rfl (lev_info _ _ _ _ _) ?_ ?_); rfl; rfl) | ((with_reducible refine wp_row_store (L := LEV { e with q := e.q ++ [m] } A2 c2 B4 d4) r2 rfl (lev_info _ _ _ _ _) (lev_one _ _ _ _ _) ?_ ?_ ?_); rfl; rfl; intro w9 v9 r9))
  have k9 := Keeps.upd (ts := [69]) v9 r2 (by simp)
  refine bodyPost_ret (results_ct rfl rfl r9 Try.underlying69 rfl (lev_info _ _ _ _ _)) rfl ?_
  refine ⟨A2, c2, B4, d4, by rw [HL.out, HE.out]; rfl, ?_, Upd.below hB8 v9 (by omega)⟩
  rw [HL.out]
  refine ⟨⟨_, ?_, hq8.keeps k9 (by decide)⟩, hp8.keeps k9 (by decide)⟩
  have h2 := h2.keeps k9 (by decide)
  rw [← hn1] at h2
  exact h2
theorem enqueueR (e : LE) (A B : Option Addr) (c d : Nat) (Am : Option Addr) (cm : Nat) (m : List UInt8) (W : World) (ht : e.ty) (hH : Held W e A c B d) (hm : IsB W Am m.length m) : Calls Try.prog 49 #[.agg (LEV e A c B d), .slice Am m.length cm] W (EnR e m W) := by
  cases hv : vE e
  · exact enr_v e A B c d Am cm m W ht hH hm hv
  · rcases Nat.lt_or_ge 1048576 m.length with h1 | h1
    · exact enr_m e A B c d Am cm m W ht hH hm hv h1
    · by_cases h2 : e.q.length = 64
      · exact enr_q e A B c d Am cm m W ht hH hm hv h1 h2
      · exact enr_ok e A B c d Am cm m W ht hH hm hv h1 h2
end
end Go.Proofs.Ythjkhambmgepdaa
