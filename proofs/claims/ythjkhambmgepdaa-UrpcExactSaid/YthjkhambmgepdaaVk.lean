/- urpc: the connection's small functions (place, word, number), and what the regions of its walks keep. -/
import Derived.Test.YthjkhambmgepdaaVm
import Derived.Test.YthjkhambmgepdaaR1
namespace Go.Proofs.Ythjkhambmgepdaa
open Go.RowKit
set_option linter.unusedVariables false
theorem placeU (v n : Int) (h1 : 1 ≤ n) (h2 : n ≤ 4611686018427387904) (W : World) : Calls Try.prog 20 #[.int .i64 v, .int .i64 n] W fun e W' => e = .returned (.int .i64 (v % n)) ∧ W = W' := by
  obtain ⟨t1, t2⟩ := tmod_bd v n h1
  go_enter Try.func20, Try.ntmps20
  go_wp2
  · go_ret
    exact ⟨ret_int (tmod_neg h1 (by assumption)), rfl⟩
  · go_ret
    exact ⟨ret_int (tmod_pos h1 (by assumption)), rfl⟩
theorem White.stepU {col col1 : Nat → Nat} {w wr w' : World} (h : White col w wr) (hc : ∀ x, x < w.heap.size → col x = 0 → col1 x = 0) (h2 : White col1 wr w') : White col w w' :=
  ⟨h2.os.trans h.os, h2.tape.trans h.tape, h2.output.trans h.output, Nat.le_trans h.size h2.size, fun x hx h0 => (h2.block x (Nat.lt_of_lt_of_le hx h.size) (hc x hx h0)).trans (h.block x hx h0)⟩
theorem info_44u : (Try.prog.info? 44).map (fun i => (i.zero, i.size, i.bytes)) = some (some (.slice none 0 0), 1, 24) := by kernel_rfl
section
variable {P : Program} {a : Act} {w : World} {typ : TypeId} {pos : String} {after : Array Edge}
theorem wp_put_midU {ops : Array Oper} {rest : List Oper} {Q : Exit → Act → World → Prop} {ty : TypeId} {x y : Operand} {g off : Nat} {t : TypeId} {pre cs post : List Value} {L : Array Value} (hrow : Row w g t (pre ++ cs ++ post).toArray) (ho : off = pre.length) (hs : cs.length = L.size) (hn : (P.info? ty).map (·.size) = some L.size)
    (h1 : L.all (·.oneCell') = true) (hx : a.eval x = .pointer (some ⟨g, off, none⟩)) (hy : a.eval y = .agg L) (h : ∀ w', Upd w w' g → Row w' g t (pre ++ L.toList ++ post).toArray → wpList P ops Q rest (a.put none undef) w') :
    wpList P ops Q ({ dst := none, op := .store ty x y, type := typ, pos := pos, after := after, guard := none } :: rest) a w := by
  subst ho
  have ht : w.there g pre.length L.size := fun j hj => by
    refine ⟨?_, hrow.frozen _⟩
    rw [hrow.cell]
    simp; omega
  refine wpList_store_mid (op := { dst := none, op := .store ty x y, type := typ, pos := pos, after := after, guard := none }) rfl ty x y rfl g pre.length L hx hy ht hn h1 ?_
  exact h _ (Upd.setCells g _ w _) (Row.setCells (g := g) (t := t) L.toList w pre post cs hrow (by simpa using hs))
end
theorem IsN.of_same {w w' : World} {A : Option Addr} {n : Nat} {bs : List Int} (h : IsN w A n bs) (hb : ∀ b o, A = some ⟨b, o, none⟩ → 0 < n → w'.heap[b]? = w.heap[b]?) : IsN w' A n bs := by
  refine ⟨h.1, fun hn => ?_⟩
  obtain ⟨b, o, e, hc⟩ := h.2 hn
  exact ⟨b, o, e, fun j hj => (World.cell?_of_block (w := w) (a := ⟨b, o + j, none⟩) (hb b o e hn)).trans (hc j hj)⟩
/-- An end that lies in new memory, in white. -/
theorem Part.ownU {col : Nat → Nat} {w : World} {lo : Nat} {e : UE} {A B : Option Addr} {c d : Nat} (h : OwnU w lo e A c B d) (hc : ∀ x, lo ≤ x → col x = 0) (l1 : e.cs.length ≤ 1000) (l2 : e.ss.length ≤ 1000) : Part col 0 w (fun w => HeldU w e A c B d) := fun w' hs hk =>
  ⟨h.a.isB.of_same fun b o e h0 => by
      obtain ⟨g, hA, hg, hl, -⟩ := OwnN.form h.a h0
      rw [hA] at e
      injection e with e
      injection e with e1 e2 e3
      subst e1
      exact hk _ hl (hc _ hg),
    h.b.isB.of_same fun b o e h0 => by
      obtain ⟨g, hA, hg, hl, -⟩ := OwnN.form h.b h0
      rw [hA] at e
      injection e with e
      injection e with e1 e2 e3
      subst e1
      exact hk _ hl (hc _ hg), l1, l2⟩
theorem Part.msgU {col : Nat → Nat} {w : World} {g n : Nat} {bs : List UInt8} (h : IsB w (some ⟨g, 0, none⟩) n bs) (hc : col g = 0) : Part col 0 w (fun w => IsB w (some ⟨g, 0, none⟩) n bs) := fun w' hs hk =>
  h.of_same fun b o e h0 => by
    injection e with e
    injection e with e1 e2 e3
    subst e1
    obtain ⟨b', o', e', hl, -⟩ := h.at_ h0
    injection e' with e'
    injection e' with e1 e2 e3
    subst e1
    exact hk _ hl hc
/-- How the regions with calls may change memory. -/
def UR (w : World) (b : Nat) : Prop := ∃ e A c B d, Row w b 112 (UEV e A c B d)
structure G7 (w w' : World) : Prop where
  k : Keeps [112] w w'
  b : ∀ g x, w.cell? ⟨g, 0, none⟩ = some (.int .u8 x) → w'.heap[g]? = w.heap[g]?
  u : ∀ b, UR w b → UR w' b
theorem G7.refl (w : World) : G7 w w := ⟨Keeps.refl _ _, fun _ _ _ => rfl, fun _ h => h⟩
theorem G7.below {w w' : World} (h : Below w.heap.size w w') : G7 w w' := ⟨Keeps.below h, fun g x hx => h.block g (block_lt_of_cell hx), fun b ⟨e, A, c, B, d, hr⟩ => ⟨e, A, c, B, d, hr.below h hr.lt⟩⟩
theorem G7.put {w w' : World} {b : Nat} {e : UE} {A B : Option Addr} {c d : Nat} (h : UR w b) (u : Upd w w' b) (hr : Row w' b 112 (UEV e A c B d)) : G7 w w' := by
  obtain ⟨e0, A0, c0, B0, d0, r0⟩ := h
  refine ⟨Keeps.upd u r0 (by simp), fun g x hx => u.block g (fun h => ?_), fun b' h' => ?_⟩
  · subst h
    rw [r0.cell] at hx
    simp [UEV] at hx
  · by_cases hb : b' = b
    · subst hb
      exact ⟨e, A, c, B, d, hr⟩
    · obtain ⟨e1, A1, c1, B1, d1, r1⟩ := h'
      exact ⟨e1, A1, c1, B1, d1, r1.upd u hb⟩
/-- A pointer to an end in new memory. -/
def PtrU (base : Nat) (u : Value) (w : World) : Prop := ∃ b, u = .pointer (some ⟨b, 0, none⟩) ∧ base ≤ b ∧ UR w b
theorem PtrU.mono {base : Nat} (u : Value) (w w' : World) (hg : G7 w w') (h : PtrU base u w) : PtrU base u w' := by
  obtain ⟨b, h1, h2, h3⟩ := h
  exact ⟨b, h1, h2, hg.u b h3⟩
/-- New bytes of a word. -/
def WdV (base : Nat) (v : Int) (u : Value) (w : World) : Prop := ∃ g, u = .slice (some ⟨g, 0, none⟩) 2 2 ∧ OwnB w base 5 (some ⟨g, 0, none⟩) 2 2 (wdB v)
theorem WdV.mono {base : Nat} {v : Int} (u : Value) (w w' : World) (hg : G7 w w') (h : WdV base v u w) : WdV base v u w' := by
  obtain ⟨g, h1, h2⟩ := h
  exact ⟨g, h1, h2.keeps hg.k (by decide)⟩
/-- A message in new memory. -/
def MsV (base : Nat) (bs : List UInt8) (u : Value) (w : World) : Prop := ∃ g, u = .slice (some ⟨g, 0, none⟩) bs.length bs.length ∧ base ≤ g ∧ IsB w (some ⟨g, 0, none⟩) bs.length bs
theorem MsV.mono {base : Nat} {bs : List UInt8} (u : Value) (w w' : World) (hg : G7 w w') (h : MsV base bs u w) : MsV base bs u w' := by
  obtain ⟨g, h1, h2, h3⟩ := h
  refine ⟨g, h1, h2, h3.of_same fun b o e h0 => ?_⟩
  injection e with e
  injection e with e1 e2 e3
  subst e1
  obtain ⟨b', o', e', hc⟩ := h3.2 h0
  injection e' with e'
  injection e' with e1 e2 e3
  subst e1 e2
  exact hg.b g _ (hc 0 (by omega))
def EnV (base : Nat) (e9 : UE) (u : Value) (w : World) : Prop := ∃ A c B d, u = .agg (UEV e9 A c B d) ∧ OwnU w base e9 A c B d
theorem EnV.mono {base : Nat} {e9 : UE} (u : Value) (w w' : World) (hg : G7 w w') (h : EnV base e9 u w) : EnV base e9 u w' := by
  obtain ⟨A, c, B, d, h1, h2⟩ := h
  exact ⟨A, c, B, d, h1, h2.keeps hg.k (by decide)⟩
/-- What Call and Reply hand back: an end, (a number,) a message, no error. -/
def C4V (base : Nat) (e9 : UE) (x : Int) (bs : List UInt8) (u : Value) (w : World) : Prop := ∃ A c B d g, u = .tuple #[.agg (UEV e9 A c B d), .int .i64 x, .slice (some ⟨g, 0, none⟩) bs.length bs.length, .int .i64 0] ∧ OwnU w base e9 A c B d ∧ base ≤ g ∧ IsB w (some ⟨g, 0, none⟩) bs.length bs
theorem C4V.mono {base : Nat} {e9 : UE} {x : Int} {bs : List UInt8} (u : Value) (w w' : World) (hg : G7 w w') (h : C4V base e9 x bs u w) : C4V base e9 x bs u w' := by
  obtain ⟨A, c, B, d, g, h1, h2, h3, h4⟩ := h
  obtain ⟨g', e, -, h5⟩ := MsV.mono (base := base) (.slice (some ⟨g, 0, none⟩) bs.length bs.length) w w' hg ⟨g, rfl, h3, h4⟩
  injection e with e
  injection e with e
  injection e with e1 e2 e3
  subst e1
  exact ⟨A, c, B, d, g, h1, h2.keeps hg.k (by decide), h3, h5⟩
def C3V (base : Nat) (e9 : UE) (bs : List UInt8) (u : Value) (w : World) : Prop := ∃ A c B d g, u = .tuple #[.agg (UEV e9 A c B d), .slice (some ⟨g, 0, none⟩) bs.length bs.length, .int .i64 0] ∧ OwnU w base e9 A c B d ∧ base ≤ g ∧ IsB w (some ⟨g, 0, none⟩) bs.length bs
theorem C3V.mono {base : Nat} {e9 : UE} {bs : List UInt8} (u : Value) (w w' : World) (hg : G7 w w') (h : C3V base e9 bs u w) : C3V base e9 bs u w' := by
  obtain ⟨A, c, B, d, g, h1, h2, h3, h4⟩ := h
  obtain ⟨g', e, -, h5⟩ := MsV.mono (base := base) (.slice (some ⟨g, 0, none⟩) bs.length bs.length) w w' hg ⟨g, rfl, h3, h4⟩
  injection e with e
  injection e with e
  injection e with e1 e2 e3
  subst e1
  exact ⟨A, c, B, d, g, h1, h2.keeps hg.k (by decide), h3, h5⟩
/-- The region's state: the end's block ia is laid down by the one store. -/
def CaS (w0 : World) (e9 : UE) (ia : Nat) (c : Nat) (us : Nat → Value) (w : World) : Prop := Below w0.heap.size w0 w ∧ (1 ≤ c → ∃ g8 A c B d, us ia = .pointer (some ⟨g8, 0, none⟩) ∧ w0.heap.size ≤ g8 ∧ Row w g8 112 (UEV e9 A c B d) ∧ OwnU w w0.heap.size e9 A c B d)
theorem CaS.loc {w0 : World} {e9 : UE} {ia is : Nat} {ops : Array Oper} (hw : waits (opOf ops is) ia = true) : ∀ c us us' w', (∀ k, mayAt ops [is] c k = false ∨ k ∈ [is].take c → us k = us' k) → CaS w0 e9 ia c us w' → CaS w0 e9 ia c us' w' := by
  intro c us us' w' hk ⟨a, b⟩
  refine ⟨a, fun hc => ?_⟩
  rw [← hk ia (.inl (mayAt_no (d := 0) hw (by omega) (by simp)))]
  exact b hc
/-- The same where the call fails: nothing is kept. -/
def ZaS (w0 : World) (c : Nat) (us : Nat → Value) (w : World) : Prop := Below w0.heap.size w0 w
theorem ZaS.loc {w0 : World} {is : Nat} {ops : Array Oper} : ∀ c us us' w', (∀ k, mayAt ops [is] c k = false ∨ k ∈ [is].take c → us k = us' k) → ZaS w0 c us w' → ZaS w0 c us' w' := fun _ _ _ _ _ h => h
theorem OwnU.lower {w : World} {lo lo' : Nat} {e : UE} {A B : Option Addr} {c d : Nat} (h : OwnU w lo e A c B d) (hl : lo' ≤ lo) : OwnU w lo' e A c B d := ⟨h.a.lower hl, h.b.lower hl, h.ap⟩
set_option maxRecDepth 100000 in
set_option maxHeartbeats 4000000 in
theorem word_is (v : Int) (h0 : 0 ≤ v) (h1 : v ≤ 65535) (W : World) : Calls Try.prog 118 #[.int .i64 v] W (fun en W' => ∃ u, en = .returned u ∧ WdV W.heap.size v u W' ∧ Below W.heap.size W W') := by
  have HE := Lib.hid (show (#[.int .u8 (v % 256), .int .u8 (v / 256)] : Array Value) = ((wdB v).map bv).toArray by
    simp [wdB, bv, UInt8.toNat_ofNat']
    omega)
  go_enter Try.func118, Try.ntmps118
  go_wp2
  rw [HE.out]
  go_ret
  refine ⟨_, rfl, ⟨W.heap.size, rfl, OwnB.of_row (bs := wdB v) (Row.born W 5 _) (Nat.le_refl _) (by rw [wdB_len]; decide)⟩, (Below.refl W.heap.size W).alloc (Nat.le_refl _) _⟩
set_option maxRecDepth 100000 in
set_option maxHeartbeats 4000000 in
theorem number_is (A : Option Addr) (n c : Nat) (b : List UInt8) (W : World) (hA : IsB W A n b) : Calls Try.prog 133 #[.slice A n c] W (fun en W' => en = .returned (.int .i64 (wdN b)) ∧ Below W.heap.size W W') := by
  obtain rfl := hA.1
  go_enter Try.func133, Try.ntmps133
  by_cases h2 : b.length = 2
  · match b, h2 with
    | [x, y], _ =>
      obtain ⟨g, o, rfl, hlt, hc⟩ := hA.at_ (by simp)
      have c0 : W.cell? ⟨g, o, none⟩ = some (.int .u8 x.toNat) := hc 0 (by simp)
      have c1 : W.cell? ⟨g, o + 1, none⟩ = some (.int .u8 y.toNat) := hc 1 (by simp)
      have hx := x.toNat_lt
      have hy := y.toNat_lt
      have w0 : IntKind.i64.wrap (x.toNat : Int) = x.toNat := by rw [IntKind.wrap_i64]; omega
      have w1 : IntKind.i64.wrap (y.toNat : Int) = y.toNat := by rw [IntKind.wrap_i64]; omega
      have w2 : IntKind.i64.wrap (256 * (y.toNat : Int)) = 256 * (y.toNat : Int) := by rw [IntKind.wrap_i64]; omega
      have w3 : IntKind.i64.wrap ((x.toNat : Int) + 256 * (y.toNat : Int)) = (x.toNat : Int) + 256 * (y.toNat : Int) := by rw [IntKind.wrap_i64]; omega
      have HN := Lib.hid (show wdN [x, y] = (x.toNat : Int) + 256 * (y.toNat : Int) from rfl)
      go_upto_region 3 with (fail)
      have c0 : W.drew.cell? ⟨g, o, none⟩ = some (.int .u8 x.toNat) := c0
      have c1 : W.drew.cell? ⟨g, o + 1, none⟩ = some (.int .u8 y.toNat) := c1
      refine wp_region_told (n := 16) (fun w' => w' = W.drew) (fun _ _ => True) (by kernel_rfl) (by kernel_rfl) (by rfl) rfl ?_
      repeat (first | (refine walk_pure (v := ?_) (fun _ => trivial) (fun _ => rfl) ?_ ?_; rotate_left; (focus (intro us w9 hS9 hF; subst hS9; clear hF; go_simp; (try with_reducible rfl); done)); simp only [Act.put, List.setIfInBounds_toArray, List.set_cons_zero, List.set_cons_succ, Nat.reduceAdd]) | (refine walk_skip (fun _ => trivial) (fun _ => rfl) ?_; simp only [Act.put, List.setIfInBounds_toArray, List.set_cons_zero, List.set_cons_succ, Nat.reduceAdd]))
      refine walk_done fun us w9 hS9 hF => ?_
      subst hS9
      clear hF
      go_wp2
      go_ret
      exact ⟨by rw [HN.out]; rfl, (Below.refl _ _).drew⟩
  · have hn : wdN b = -1 := by unfold wdN; rw [if_neg h2]
    have d1 : ((b.length : Int) != 2) = true := nt (by omega)
    have HN := Lib.hid hn
    clear hn h2
    go_wp2
    go_ret
    exact ⟨by rw [HN.out]; rfl, Below.refl _ _⟩
end Go.Proofs.Ythjkhambmgepdaa
