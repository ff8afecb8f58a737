/- Image: Modules. -/
import Derived.Test.YtigbmlgllgcbhaaDoorIq
import Derived.Test.YtigbmlgllgcbhaaDoorIk
import Derived.Test.YtigbmlgllgcbhaaDoorIt
import Derived.Deep.RegionHeld3
namespace Go.Proofs.YtigbmlgllgcbhaaDoor
open Go.RowKit
set_option linter.unusedVariables false
set_option linter.unusedSimpArgs false
def ModP (W : World) (en : Ending) (W' : World) : Prop := ∃ ms A c qs, GoodMs ms ∧ en = .returned (.slice A ms.length c) ∧ OwnMs W' W.heap.size A ms.length c qs ms ∧ Below W.heap.size W W'
theorem next_is {l : List Int} {A : Option Addr} {n c g k m : Nat} {W : World} {x : Int} (hn : l.length = n) (hx : x = (m : Int)) (hR : Row W g 52 (NumC A n c k)) (hL : IsN W A l.length l) (hl : l.length ≤ 1000000) (hk : k ≤ 1000000) (hm : 1 ≤ m) (hm2 : m ≤ 1000000) : Calls Tryd.prog 24 #[.pointer (some ⟨g, 0, none⟩), .int .i64 x] W (NxP g A n c k m W) := by
  subst hx hn
  exact next24 l A c g k m W hR hL hl hk hm hm2
theorem nu_born (w : World) (A : Option Addr) (n c : Nat) : Row (w.alloc (.cells #[.slice A n c, .int .i64 0] 52)) w.heap.size 52 (NumC A n c 0) := Row.born w 52 (NumC A n c 0)
structure NuS (W w0 : World) (gs : Nat) (A : Option Addr) (n c k : Nat) (w : World) : Prop where
  (kp : Keeps [52] w0 w) (be : Below W.heap.size W w) (ro : Row w gs 52 (NumC A n c k)) (gl : gs < w0.heap.size) (gw : W.heap.size ≤ w0.heap.size)
theorem NuS.hi {W w0 : World} {gs : Nat} {A : Option Addr} {n c k : Nat} {w w' : World} (h : NuS W w0 gs A n c k w) (hb : Below w0.heap.size w w') : NuS W w0 gs A n c k w' := by
  refine ⟨⟨Nat.le_trans h.kp.1 hb.size, fun g t cs fr hg ht => ?_⟩, h.be.trans (hb.mono h.gw), (hb.block gs h.gl).trans h.ro, h.gl, h.gw⟩
  exact (hb.block g (Array.getElem?_eq_some_iff.1 hg).1).trans (h.kp.2 g t cs fr hg ht)
theorem NuS.below {W w0 : World} {gs : Nat} {A : Option Addr} {n c k : Nat} {w w' : World} (h : NuS W w0 gs A n c k w) (hb : Below w.heap.size w w') : NuS W w0 gs A n c k w' := h.hi (hb.mono h.kp.1)
theorem NuS.drew {W w0 : World} {gs : Nat} {A : Option Addr} {n c k : Nat} {w : World} (h : NuS W w0 gs A n c k w) : NuS W w0 gs A n c k w.drew := h.below (Below.refl _ _).drew
theorem NuS.self {W w0 : World} {gs : Nat} {A : Option Addr} {n c k : Nat} {w : World} (h : NuS W w0 gs A n c k w) : NuS W w gs A n c k w := ⟨Keeps.refl _ _, h.be, h.ro, h.ro.lt, h.be.size⟩
theorem NuS.nx {W w0 : World} {gs : Nat} {A : Option Addr} {n c k : Nat} {w w' : World} (h : NuS W w0 gs A n c k w) (hg : W.heap.size ≤ gs) (r : Row w' gs 52 (NumC A n c (k + 1))) (u : Upd w w' gs) : NuS W w0 gs A n c (k + 1) w' := ⟨h.kp.trans (Keeps.upd u h.ro (by simp)), Upd.below h.be u hg, r, h.gl, h.gw⟩
/-- The same, and a module's block. -/
def ZM2 : Array Value := #[.string ⟨#[]⟩, .int .i64 0, .int .i64 0, .int .i64 0, .slice none 0 0]
structure NuA (W w0 : World) (gs : Nat) (A : Option Addr) (n c gm : Nat) (cs : Array Value) (k : Nat) (w : World) : Prop where
  (s : NuS W w0 gs A n c k w) (m : Row w gm 35 cs) (gb : w0.heap.size ≤ gm)
theorem NuA.of {W w0 : World} {gs : Nat} {A : Option Addr} {n c k : Nat} {w : World} (h : NuS W w0 gs A n c k w) : NuA W w0 gs A n c w.heap.size ZM2 k (w.alloc (.cells #[.string ⟨#[]⟩, .int .i64 0, .int .i64 0, .int .i64 0, .slice none 0 0] 35)) := ⟨h.below ((Below.refl _ _).alloc (Nat.le_refl _) _), Row.born w 35 ZM2, h.kp.1⟩
theorem NuA.hi {W w0 : World} {gs : Nat} {A : Option Addr} {n c gm : Nat} {cs : Array Value} {k : Nat} {w w' : World} (h : NuA W w0 gs A n c gm cs k w) (hb : Below (gm + 1) w w') : NuA W w0 gs A n c gm cs k w' := ⟨h.s.hi (hb.mono (by have := h.gb; omega)), (hb.block gm (by omega)).trans h.m, h.gb⟩
theorem NuA.drew {W w0 : World} {gs : Nat} {A : Option Addr} {n c gm : Nat} {cs : Array Value} {k : Nat} {w : World} (h : NuA W w0 gs A n c gm cs k w) : NuA W w0 gs A n c gm cs k w.drew := ⟨h.s.drew, h.m.below (Below.refl _ _).drew h.m.lt, h.gb⟩
theorem NuA.self {W w0 : World} {gs : Nat} {A : Option Addr} {n c gm : Nat} {cs : Array Value} {k : Nat} {w : World} (h : NuA W w0 gs A n c gm cs k w) (w9 : World) (h9 : NuS W w9 gs A n c k w) (hg : w9.heap.size ≤ gm) : NuA W w9 gs A n c gm cs k w := ⟨h9, h.m, hg⟩
theorem NuA.nx {W w0 : World} {gs : Nat} {A : Option Addr} {n c gm : Nat} {cs : Array Value} {k : Nat} {w w' : World} (h : NuA W w0 gs A n c gm cs k w) (hg : W.heap.size ≤ gs) (r : Row w' gs 52 (NumC A n c (k + 1))) (u : Upd w w' gs) : NuA W w0 gs A n c gm cs (k + 1) w' := ⟨h.s.nx hg r u, h.m.upd u (by have := h.gb; have := h.s.gl; omega), h.gb⟩
theorem NuA.below {W w0 : World} {gs : Nat} {A : Option Addr} {n c gm : Nat} {cs : Array Value} {k : Nat} {w w' : World} (h : NuA W w0 gs A n c gm cs k w) (hb : Below w.heap.size w w') : NuA W w0 gs A n c gm cs k w' := h.hi (hb.mono h.m.lt)
theorem NuA.q4 {W w0 : World} {gs : Nat} {A : Option Addr} {n c gm : Nat} {m : Md} {D : Option Addr} {dc k : Nat} {w : World} (h : NuA W w0 gs A n c gm (mdV m D dc).toArray k w) {q : Nat} (hq : m.data.length = q) : w.cell? ⟨gm, 4, none⟩ = some (.slice D q dc) := by subst hq; exact h.m.cell 4
theorem NuA.set {W w0 : World} {gs : Nat} {A : Option Addr} {n c gm : Nat} {cs : Array Value} {k : Nat} {w : World} (h : NuA W w0 gs A n c gm cs k w) (i : Nat) (v : Value) {cs2 : Array Value} (e : cs2 = cs.setIfInBounds i v) : NuA W w0 gs A n c gm cs2 k (w.setCell ⟨gm, i, none⟩ v) := by
  subst e
  exact ⟨h.s.hi (Upd.below (Below.refl _ _) (Upd.setCell w gm i v) h.gb), h.m.set i v, h.gb⟩
theorem isB1 {w : World} {g v : Nat} (h : Row w g 5 #[.int .u8 (v : Int)]) (hv : v < 256) : IsB w (some ⟨g, 0, none⟩) 1 [UInt8.ofNat v] := by
  have e : (UInt8.ofNat v).toNat = v := by rw [UInt8.toNat_ofNat']; exact Nat.mod_eq_of_lt (by omega)
  refine ⟨rfl, fun _ => ⟨g, 0, rfl, fun i hi => ?_⟩⟩
  obtain rfl : i = 0 := by simpa using hi
  have := h.cell 0
  rw [Nat.zero_add, this]
  simp [e]
theorem u8w {v : Nat} (h : (v : Int) < 256) : IntKind.u8.wrap (v : Int) = (v : Int) := by rw [IntKind.wrap_u8]; omega
theorem u8l {v : Nat} (h : (v : Int) < 256) : v < 256 := by omega
/-- A store into the module's block. -/
theorem NuA.put {W w0 : World} {gs : Nat} {A : Option Addr} {n c gm : Nat} {cs : Array Value} {k : Nat} {w w' : World} (h : NuA W w0 gs A n c gm cs k w) (u : Upd w w' gm) {cs2 : Array Value} (r : Row w' gm 35 cs2) : NuA W w0 gs A n c gm cs2 k w' := ⟨h.s.hi (Upd.below (Below.refl _ _) u h.gb), r, h.gb⟩
theorem NuA.cells {W w0 : World} {gs : Nat} {A : Option Addr} {n c gm k : Nat} {w : World} (h : NuA W w0 gs A n c gm ZM2 k w) : (w.cell? ⟨gm, 0, none⟩ = some (.string ⟨#[]⟩) ∧ w.cell? ⟨gm, 1, none⟩ = some (.int .i64 0) ∧ w.cell? ⟨gm, 2, none⟩ = some (.int .i64 0) ∧ w.cell? ⟨gm, 3, none⟩ = some (.int .i64 0) ∧ w.cell? ⟨gm, 4, none⟩ = some (.slice none 0 0)) ∧ w.frozen? ⟨gm, 0, none⟩ = false ∧ w.frozen? ⟨gm, 1, none⟩ = false ∧ w.frozen? ⟨gm, 2, none⟩ = false ∧ w.frozen? ⟨gm, 3, none⟩ = false ∧ w.frozen? ⟨gm, 4, none⟩ = false :=
  ⟨⟨h.m.cell 0, h.m.cell 1, h.m.cell 2, h.m.cell 3, h.m.cell 4⟩, h.m.frozen 0, h.m.frozen 1, h.m.frozen 2, h.m.frozen 3, h.m.frozen 4⟩
def NxS (W w0 : World) (gs : Nat) (A : Option Addr) (n c k : Nat) (x : Int) (en : Ending) (w' : World) : Prop := ∃ v : Nat, (v : Int) < x ∧ (0 : Int) ≤ (v : Int) ∧ (v : Int) ≤ x ∧ IntKind.i64.wrap (1 + (v : Int)) = 1 + (v : Int) ∧ IntKind.i64.wrap (7 * (v : Int)) = 7 * (v : Int) ∧ IntKind.i64.wrap (32 + 7 * (v : Int)) = 32 + 7 * (v : Int) ∧ en = .returned (.int .i64 (v : Int)) ∧ NuS W w0 gs A n c (k + 1) w'
def NxA (W w0 : World) (gs : Nat) (A : Option Addr) (n c gm : Nat) (cs : Array Value) (k : Nat) (w : World) (x : Int) (en : Ending) (w' : World) : Prop := ∃ v : Nat, (v : Int) < x ∧ (0 : Int) ≤ (v : Int) ∧ (v : Int) ≤ x ∧ IntKind.i64.wrap (1 + (v : Int)) = 1 + (v : Int) ∧ IntKind.i64.wrap (7 * (v : Int)) = 7 * (v : Int) ∧ IntKind.i64.wrap (32 + 7 * (v : Int)) = 32 + 7 * (v : Int) ∧ en = .returned (.int .i64 (v : Int)) ∧ NuA W w0 gs A n c gm cs (k + 1) w' ∧ Keeps [52] w w'
theorem nxS {l : List Int} {A : Option Addr} {n c gs : Nat} {W : World} (hn : l.length = n) (hL : IsN W A l.length l) (hl : l.length ≤ 200) (hg : W.heap.size ≤ gs) {w0 w : World} {k : Nat} {x : Int} (h : NuS W w0 gs A n c k w) (hk : k ≤ 1000000) (hx : 1 ≤ x) (hx2 : x ≤ 1000000) : Calls Tryd.prog 24 #[.pointer (some ⟨gs, 0, none⟩), .int .i64 x] w (NxS W w0 gs A n c k x) := by
  refine (next_is (m := x.toNat) hn (by omega) h.ro (hL.below h.be) (by omega) hk (by omega) (by omega)).mono ?_
  rintro en w' ⟨v, hv, he, r, u⟩
  exact ⟨v, by omega, by omega, by omega, by rw [IntKind.wrap_i64]; omega, by rw [IntKind.wrap_i64]; omega, by rw [IntKind.wrap_i64]; omega, he, h.nx hg r u⟩
theorem nxA {l : List Int} {A : Option Addr} {n c gs : Nat} {W : World} (hn : l.length = n) (hL : IsN W A l.length l) (hl : l.length ≤ 200) (hg : W.heap.size ≤ gs) {w0 w : World} {gm : Nat} {cs : Array Value} {k : Nat} {x : Int} (h : NuA W w0 gs A n c gm cs k w) (hk : k ≤ 1000000) (hx : 1 ≤ x) (hx2 : x ≤ 1000000) : Calls Tryd.prog 24 #[.pointer (some ⟨gs, 0, none⟩), .int .i64 x] w (NxA W w0 gs A n c gm cs k w x) := by
  refine (next_is (m := x.toNat) hn (by omega) h.s.ro (hL.below h.s.be) (by omega) hk (by omega) (by omega)).mono ?_
  rintro en w' ⟨v, hv, he, r, u⟩
  exact ⟨v, by omega, by omega, by omega, by rw [IntKind.wrap_i64]; omega, by rw [IntKind.wrap_i64]; omega, by rw [IntKind.wrap_i64]; omega, he, h.nx hg r u, Keeps.upd u h.s.ro (by simp)⟩
theorem late_chain_V {P : Program} {ops : Array Oper} {st : List Nat} {S : Nat → (Nat → Value) → World → Prop} {G : World → World → Prop} {Q : Exit → Act → World → Prop} {o : Oper} {rest : List Oper} {i c : Nat} {F : List (Nat × (Value → World → Prop))} {A : (Nat → Value) → Act} (V : Value → World → Prop) (hV : ∀ u w w', G w w' → V u w → V u w') (hne : o.dst ≠ none) (hs : ∀ us w, S c us w → (∀ p ∈ F, waits o p.1 = true → p.2 (us p.1) w) → ∀ K : Act → World → Prop, (∀ u w', V u w' → S (c + 1) (fun k => if k = i then u else us k) w' → G w w' → K ((A us).put o.dst u) w') →
      if Region.wanted o (yielded ops (A us).tmps) = true then Oper.wp P o (A us) w K (fun _ _ _ => False) else K ((A us).put o.dst undef) w)
    (h : WalkL P ops st S G Q rest (i + 1) (c + 1) ((i, V) :: F) (fun us => (A us).put o.dst (us i))) (hi : i ∈ st := by decide) : WalkL P ops st S G Q (o :: rest) i c F A :=
  .inr (.inl ⟨hi, hne, V, hV, fun us w hS hF K hK => hs us w hS hF K fun u w' h0 h1 h2 => hK u w' trivial h2 ⟨h0, h1⟩, h⟩)
/-- A byte put behind the data: the chain Next, append, store. -/
def BytS (W wo : World) (gs : Nat) (A : Option Addr) (n c0 gm : Nat) (m : Md) (D : Option Addr) (dc k : Nat) : Nat → (Nat → Value) → World → Prop
  | 0, _, w => NuA W wo gs A n c0 gm (mdV m D dc).toArray k w ∧ OwnB w (gm + 1) 5 D m.data.length dc m.data
  | 1, _, w => NuA W wo gs A n c0 gm (mdV m D dc).toArray (k + 1) w ∧ OwnB w (gm + 1) 5 D m.data.length dc m.data
  | 2, us, w => ∃ A6 c6 x, us 6 = .slice A6 (m.data.length + 1) c6 ∧ NuA W wo gs A n c0 gm (mdV m D dc).toArray (k + 1) w ∧ OwnB w (gm + 1) 5 A6 (m.data.length + 1) c6 (m.data ++ [x])
  | _, _, w => ∃ A6 c6 x, NuA W wo gs A n c0 gm (mdV ⟨m.name, m.kind, m.width, m.entry, m.data ++ [x]⟩ A6 c6).toArray (k + 1) w ∧ OwnB w (gm + 1) 5 A6 (m.data.length + 1) c6 (m.data ++ [x])
theorem BytS.loc {W wo : World} {gs : Nat} {A : Option Addr} {n c0 gm : Nat} {m : Md} {D : Option Addr} {dc k : Nat} {ops : Array Oper} : ∀ c us us' w, (∀ k, mayAt ops [3, 6, 8] c k = false ∨ k ∈ [3, 6, 8].take c → us k = us' k) → BytS W wo gs A n c0 gm m D dc k c us w → BytS W wo gs A n c0 gm m D dc k c us' w
  | 0, _, _, _, _, h => h
  | 1, _, _, _, _, h => h
  | 2, us, us', w, he, h => by
    obtain ⟨A6, c6, x, hu, h1, h2⟩ := h
    exact ⟨A6, c6, x, by rw [← he 6 (.inr (by simp)), hu], h1, h2⟩
  | _ + 3, _, _, _, _, h => h
theorem BytS.at_ {W wo : World} {gs : Nat} {A : Option Addr} {n c0 gm : Nat} {m : Md} {D : Option Addr} {dc k : Nat} {us : Nat → Value} {w : World} : ∀ {c : Nat}, BytS W wo gs A n c0 gm m D dc k c us w → c < 2 → NuA W wo gs A n c0 gm (mdV m D dc).toArray (k + c) w ∧ OwnB w (gm + 1) 5 D m.data.length dc m.data
  | 0, h, _ => h
  | 1, h, _ => h
  | _ + 2, _, h => by omega
theorem BytS.below {W wo : World} {gs : Nat} {A : Option Addr} {n c0 gm : Nat} {m : Md} {D : Option Addr} {dc k : Nat} {us : Nat → Value} {w w' : World} : ∀ {c : Nat}, BytS W wo gs A n c0 gm m D dc k c us w → Below w.heap.size w w' → BytS W wo gs A n c0 gm m D dc k c us w'
  | 0, h, hb => ⟨h.1.below hb, h.2.below hb⟩
  | 1, h, hb => ⟨h.1.below hb, h.2.below hb⟩
  | 2, h, hb => by
    obtain ⟨A6, c6, x, hu, h1, h2⟩ := h
    exact ⟨A6, c6, x, hu, h1.below hb, h2.below hb⟩
  | _ + 3, h, hb => by
    obtain ⟨A6, c6, x, h1, h2⟩ := h
    exact ⟨A6, c6, x, h1.below hb, h2.below hb⟩
/-- Other blocks of bytes stay. -/
def BytG (D : Option Addr) (q dc : Nat) (w w' : World) : Prop := ∀ g cs, (Value.slice D q dc).ownBlock ≠ some g → Row w g 5 cs → Row w' g 5 cs
def BytV (D : Option Addr) (q dc : Nat) (u : Value) (w : World) : Prop := ∃ g v : Nat, u = .slice (some ⟨g, 0, none⟩) 1 1 ∧ v < 256 ∧ (Value.slice D q dc).ownBlock ≠ some g ∧ Row w g 5 #[.int .u8 (v : Int)]
theorem BytV.mono {D : Option Addr} {q dc : Nat} (u : Value) (w w' : World) (hg : BytG D q dc w w') (h : BytV D q dc u w) : BytV D q dc u w' := by
  obtain ⟨g, v, hu, hv, hn, r⟩ := h
  exact ⟨g, v, hu, hv, hn, hg g _ hn r⟩
/-- A module just read from the numbers. -/
def MdQ (W w0 : World) (gs : Nat) (A : Option Addr) (n c k : Nat) (u : Value) (w : World) : Prop := ∃ (gm : Nat) (nm : List UInt8) (kd wd : Int), u = .pointer (some ⟨gm, 0, none⟩) ∧ nmAbc nm ∧ (1 ≤ kd ∧ kd ≤ 3) ∧ (wd = 32 ∨ wd = 39) ∧ NuA W w0 gs A n c gm (mdV ⟨nm, kd, wd, 0, []⟩ none 0).toArray k w
theorem abc_ext : ∀ v : Nat, v < 3 → ∃ nm, nmAbc nm ∧ ByteArray.extract ⟨#[97, 98, 99]⟩ v 3 = sv nm := by
  intro v hv
  obtain rfl | rfl | rfl : v = 0 ∨ v = 1 ∨ v = 2 := by omega
  · exact ⟨_, .inl rfl, by rfl⟩
  · exact ⟨_, .inr (.inl rfl), by rfl⟩
  · exact ⟨_, .inr (.inr rfl), by rfl⟩
theorem mdq {W w0 : World} {gs : Nat} {A : Option Addr} {n c k : Nat} {gm v1 v2 v3 : Nat} {w : World} (h1 : (v1 : Int) < 3) (h2 : (v2 : Int) < 3) (h3 : (v3 : Int) < 2) (h : NuA W w0 gs A n c gm #[.string (ByteArray.extract ⟨#[97, 98, 99]⟩ v1 3), .int .i64 (1 + (v2 : Int)), .int .i64 (32 + 7 * (v3 : Int)), .int .i64 0, .slice none 0 0] k w) : MdQ W w0 gs A n c k (.pointer (some ⟨gm, 0, none⟩)) w := by
  obtain ⟨nm, hnm, he⟩ := abc_ext v1 (by omega)
  rw [he] at h
  exact ⟨gm, nm, _, _, rfl, hnm, by omega, by omega, h⟩
theorem mdq_a {W w0 : World} {gs : Nat} {A : Option Addr} {n c k : Nat} {v1 v2 v3 : Nat} {w : World} (h1 : (v1 : Int) < 3) (h2 : (v2 : Int) < 3) (h3 : (v3 : Int) < 2) (h : NuS W w0 gs A n c k w) : MdQ W w0 gs A n c k (.pointer (some ⟨w.heap.size, 0, none⟩)) (w.alloc (.cells #[.string (ByteArray.extract ⟨#[97, 98, 99]⟩ v1 3), .int .i64 (1 + (v2 : Int)), .int .i64 (32 + 7 * (v3 : Int)), .int .i64 0, .slice none 0 0] 35)) :=
  mdq h1 h2 h3 ⟨h.below ((Below.refl _ _).alloc (Nat.le_refl _) _), Row.born w 35 _, h.kp.1⟩
theorem mdq_b {W w0 : World} {gs : Nat} {A : Option Addr} {n c k : Nat} {gm v1 v2 v3 : Nat} {w : World} (h1 : (v1 : Int) < 3) (h2 : (v2 : Int) < 3) (h3 : (v3 : Int) < 2) (h : NuA W w0 gs A n c gm ZM2 k w) : MdQ W w0 gs A n c k (.pointer (some ⟨gm, 0, none⟩)) (w.setCells gm 0 [.string (ByteArray.extract ⟨#[97, 98, 99]⟩ v1 3), .int .i64 (1 + (v2 : Int)), .int .i64 (32 + 7 * (v3 : Int)), .int .i64 0, .slice none 0 0]) := by
  refine mdq h1 h2 h3 (h.put (Upd.setCells gm _ w 0) ?_)
  have := Row.setCells (g := gm) (t := 35) [.string (ByteArray.extract ⟨#[97, 98, 99]⟩ v1 3), .int .i64 (1 + (v2 : Int)), .int .i64 (32 + 7 * (v3 : Int)), .int .i64 0, .slice none 0 0] w [] [] ZM2.toList (by simpa [ZM2] using h.m) rfl
  simpa using this
theorem mdq_d {W w0 : World} {gs : Nat} {A : Option Addr} {n c k : Nat} {u : Value} {w : World} (h : MdQ W w0 gs A n c k u w) : MdQ W w0 gs A n c k u w.drew := by
  obtain ⟨gm, nm, kd, wd, hu, a, b, d, e⟩ := h
  exact ⟨gm, nm, kd, wd, hu, a, b, d, e.drew⟩
theorem rfind_is {ms : List Md} {nm : List UInt8} {wd x : Int} {b : Bool} (h : fndK ms nm wd = x ∧ fndB ms nm wd = b) (A : Option Addr) (n c : Nat) (hn : n = ms.length) (W : World) (hM : IsMs W A n ms) (hl : ms.length ≤ 1000000) : Calls Tryd.prog 21 #[.slice A n c, .string (sv nm), .int .i64 wd] W (fun en W' => en = .returned (.tuple #[.int .i64 x, .bool b]) ∧ Below W.heap.size W W') := by
  subst hn
  obtain ⟨rfl, rfl⟩ := h
  exact rfind21 ms A c nm wd W hM hl
theorem chk_zero {nm : List UInt8} {kd wd e : Int} {dat : List UInt8} {ms : List Md} (hn : nmAbc nm) (hk : 1 ≤ kd ∧ kd ≤ 3) (hw : (kd = 3 ∧ wd = 0) ∨ (kd ≠ 3 ∧ (wd = 32 ∨ wd = 39))) (hd : kd = 1 → dat.length ≠ 0 ∧ dat.length % 8 = 0) (he : 0 ≤ e) (he1 : kd = 1 → e < ((dat.length / 8 : Nat) : Int)) (he2 : kd ≠ 1 → e = 0) (hf : fndB ms nm wd = false) : chkE ⟨nm, kd, wd, e, dat⟩ ms = 0 := by
  have hN : nameB nm = true := by rcases hn with rfl | rfl | rfl <;> decide
  have hB : badW ⟨nm, kd, wd, e, dat⟩ = false := by
    unfold badW
    rcases hw with ⟨rfl, rfl⟩ | ⟨h3, rfl | rfl⟩
    · rfl
    · rw [if_neg h3]; rfl
    · rw [if_neg h3]; rfl
  unfold chkE
  rw [if_pos hN, if_neg (by rw [hB]; simp; omega), if_neg (fun h => by have := hd h.1; have h2 := h.2; simp only at h2; omega), if_neg ?_, if_neg (by simp [hf])]
  unfold entN
  simp only
  by_cases h1 : kd = 1
  · rw [if_pos h1]; have := he1 h1; omega
  · rw [if_neg h1, he2 h1]; omega
set_option maxRecDepth 100000 in
set_option maxHeartbeats 8000000 in
theorem modules (l : List Int) (A : Option Addr) (c : Nat) (W : World) (hL : IsN W A l.length l) (hl : l.length ≤ 200) : Calls Tryd.prog 11 #[.slice A l.length c] W (ModP W) := by
  obtain ⟨n, hn⟩ : ∃ n, l.length = n := ⟨_, rfl⟩
  rw [hn]
  have HL := Lib.hid hL
  have HN := Lib.hid hn
  have HLE := Lib.hid hl
  go_enter Tryd.func11, Tryd.ntmps11
  go_upto_region 2 with (fail)
  have r0 := nu_born W A n c
  have hB := (Below.refl W.heap.size W).alloc (Nat.le_refl _) (.cells #[.slice A n c, .int .i64 0] 52)
  obtain ⟨gs, hgs⟩ : ∃ gs, W.heap.size = gs := ⟨_, rfl⟩
  have hgl : W.heap.size ≤ gs := by omega
  generalize W.alloc (.cells #[.slice A n c, .int .i64 0] 52) = w0 at *
  have h0 : NuS W w0 gs A n c 0 w0 := ⟨Keeps.refl _ _, hB, hgs ▸ r0, hgs ▸ r0.lt, hB.size⟩
  rw [hgs]
  have N6 := Lib.hid (nxS (x := 6) hn hL hl hgl h0 (by decide) (by decide) (by decide))
  clear hL hn hl r0 h0 hB
  go_upto_region 5 with (go_at_call 24; (with_reducible refine N6.out.mono ?_); rintro en w1 ⟨n6, hn6, -, -, -, -, -, rfl, h1⟩)
  go_loopw [5, 6] (fun v i wr => ∃ (j : Nat) (ms : List Md) (A1 : Option Addr) (c1 : Nat) (qs : List Mq) (k : Nat), j ≤ n6 ∧ i = .int .i64 j ∧ v = .slice A1 ms.length c1 ∧ ms.length ≤ j ∧ GoodMs ms ∧ OwnMs wr W.heap.size A1 ms.length c1 qs ms ∧ NuS W wr gs A n c k wr ∧ k ≤ 1 + 200 * j) (fun _ i _ => n6 - (intOf i).toNat)
  case atStart => exact ⟨0, [], none, 0, [], 1, by omega, rfl, rfl, by simp, GoodMs.nil, OwnMs.nil _ _, h1.self, by omega⟩
  case round =>
    clear h1 N6
    obtain ⟨j, ms, A1, c1, qs, k, hj, rfl, rfl, hmj, hgd, ho, hS, hk⟩ := hrel
    rcases Nat.lt_or_ge j n6 with hjl | hjl
    · have d1 : decide (j < n6) = true := decide_eq_true hjl
      have hji : (j : Int) < n6 := by omega
      go_upto_region 7 with (fail)
      have NS := Lib.hid (fun (w0 w : World) (k : Nat) (x : Int) (h : NuS W w0 gs A n c k w) => nxS (x := x) HN.out HL.out HLE.out hgl h)
      have NA := Lib.hid (fun (w0 w : World) (gm : Nat) (cs : Array Value) (k : Nat) (x : Int) (h : NuA W w0 gs A n c gm cs k w) => nxA (x := x) HN.out HL.out HLE.out hgl h)
      go_cut [7, 25, 26, 28, 29, 31, 32, 33, 34] (fun u7 _ _ _ _ _ _ _ _ wx => MdQ W wr gs A n c (k + 3) u7 wx)
      case first =>
        have hS0 := hS.self
        clear hS
        go_region_held3 (fun w' => True) (trivial) (first | (go_at_call 24; (with_reducible refine Calls.mono (NA.out ?_ _ ?_ ?_ ?_ _ ?_ ?_ ?_ ?_) ?_); rotate_left 4; (first | assumption | (with_reducible refine NuA.drew ?_; assumption) | (with_reducible refine NuA.of ?_; assumption) | (with_reducible refine NuA.of (NuS.drew ?_); assumption) | ((with_reducible refine NuA.drew ?_); (refine NuA.of ?_); assumption) | ((with_reducible refine NuA.drew ?_); (refine NuA.of (NuS.drew ?_)); assumption)); omega; decide; decide; rintro en w2 ⟨v2, hv2, hw0, hw1, hw2, hw3, hw4, rfl, h2, -⟩; obtain ⟨⟨q0, q1, q2, q3, q4⟩, f0, f1, f2, f3, f4⟩ := h2.cells) | (go_at_call 24; (with_reducible refine Calls.mono (NS.out ?_ _ ?_ _ ?_ ?_ ?_ ?_) ?_); rotate_left 2; (first | assumption | (with_reducible refine NuS.drew ?_; assumption)); omega; decide; decide; rintro en w2 ⟨v2, hv2, hw0, hw1, hw2, hw3, hw4, rfl, h2⟩))
        all_goals go_wp2
        all_goals go_meet
        · exact mdq_a (by assumption) (by assumption) (by assumption) h2
        · exact mdq_b (by assumption) (by assumption) (by assumption) h2
        · exact mdq_b (by assumption) (by assumption) (by assumption) h2
        · exact mdq_b (by assumption) (by assumption) (by assumption) h2
      case rest =>
      obtain ⟨gm, nm, kd, wd, rfl, hnm, hkd, hwd, hA⟩ := hcut
      have q0 : wc.cell? ⟨gm, 0, none⟩ = some (.string (sv nm)) := hA.m.cell 0
      have q1 : wc.cell? ⟨gm, 1, none⟩ = some (.int .i64 kd) := hA.m.cell 1
      have q2 : wc.cell? ⟨gm, 2, none⟩ = some (.int .i64 wd) := hA.m.cell 2
      clear hS NS
      have hml : ms.length ≤ 1000000 := by omega
      have hwc := ho.keeps hA.s.kp (by decide) (by decide)
      have hwm := hwc.isMs
      obtain ⟨b, hb⟩ : ∃ b, fndB ms nm wd = b := ⟨_, rfl⟩
      obtain ⟨x, hx⟩ : ∃ x, fndK ms nm wd = x := ⟨_, rfl⟩
      have F1 := Lib.hid (rfind_is ⟨hx, hb⟩ A1 ms.length c1 rfl wc hwm hml)
      have HF := Lib.hid hb
      clear hx hb hwm
      cases b
      case true =>
        go_wp2_with (go_at_call 21; (with_reducible refine F1.out.mono ?_); rintro en w3 ⟨rfl, hb3⟩)
        exact ⟨⟨j + 1, ms, A1, c1, qs, k + 3, by omega, by go_num, rfl, by omega, hgd, hwc.below hb3, (hA.below hb3).s.self, by omega⟩, by simp [intOf]; omega⟩
      case false =>
      go_upto_region 10 with (go_at_call 21; (with_reducible refine F1.out.mono ?_); rintro en w3 ⟨rfl, hb3⟩)
      have hA3 := hA.below hb3
      have X12 := Lib.hid (NA.out _ _ _ _ _ 12 hA3 (by omega) (by decide) (by decide))
      clear q0 q1 q2 hA F1 hb3 hwc
      go_upto_region 11 with (go_at_call 24; (with_reducible refine X12.out.mono ?_); rintro en w4 ⟨v, hv, hv0, hv1, hv2, -, -, rfl, hA, -⟩)
      clear X12 hA3
      have q0 : w4.cell? ⟨gm, 0, none⟩ = some (.string (sv nm)) := hA.m.cell 0
      have q1 : w4.cell? ⟨gm, 1, none⟩ = some (.int .i64 kd) := hA.m.cell 1
      obtain rfl | rfl | rfl : kd = 1 ∨ kd = 2 ∨ kd = 3 := by omega
      · obtain ⟨sz, hsz⟩ : ∃ sz : Nat, 8 * (1 + (v : Int)) = (sz : Int) := ⟨8 * (1 + v), by omega⟩
        have hsz1 : sz = 8 * (1 + v) := by omega
        have hsz2 : sz ≤ 130 := by omega
        simp only [hsz]
        have HC := Lib.hid (fun (e : Int) (dat : List UInt8) (hd : dat.length = sz) (h0 : 0 ≤ e) (h1 : e < ((sz / 8 : Nat) : Int)) => chk_zero (kd := 1) (dat := dat) hnm (by decide) (.inr ⟨by decide, hwd⟩) (fun _ => by omega) h0 (fun _ => by rw [hd]; exact h1) (fun h => absurd rfl h) HF.out)
        go_upto_region 18 with (fail)
        have hz8 : 1 ≤ sz / 8 := by omega
        clear q0 q1 hsz hsz1 hv hv0 hv1 hv2
        generalize w4 = w9 at *
        generalize wr = wo at *
        have hA0 : NuA W wo gs A n c gm (mdV ⟨nm, 1, wd, 0, []⟩ none 0).toArray (k + 4) w9 := hA
        clear hA
        go_loopw [13] (fun i wr => ∃ (q : Nat) (D : Option Addr) (dc : Nat) (dat : List UInt8) (k2 : Nat), q ≤ sz ∧ i = .int .i64 q ∧ dat.length = q ∧ OwnB wr (gm + 1) 5 D q dc dat ∧ NuA W wo gs A n c gm (mdV ⟨nm, 1, wd, 0, dat⟩ D dc).toArray k2 wr ∧ k2 ≤ k + 4 + q) (fun i _ => sz - (intOf i).toNat)
        case atStart => exact ⟨0, none, 0, [], _, by omega, rfl, rfl, OwnB.nil _ _ _, hA0, by omega⟩
        case round =>
          clear hA0
          obtain ⟨q, D, dc, dat, k2, hq, rfl, hdl, od, hA, hk2⟩ := hrel
          rcases Nat.lt_or_ge q sz with hql | hql
          · have d1 : decide (q < sz) = true := decide_eq_true hql
            have hqi : (q : Int) < sz := by omega
            subst hdl
            go_upto_region 20 with (fail)
            refine wp_region_late (n := 92) [3, 6, 8] (BytS W wo gs A n c gm ⟨nm, 1, wd, 0, dat⟩ D dc k2) (BytG D dat.length dc) (by kernel_rfl) (by kernel_rfl) (by rfl) BytS.loc ⟨hA.drew, od.below (Below.refl _ _).drew⟩ ?_
            refine late_pure (by simp) (fun _ _ _ _ h => h) (v := ?_) (fun _ => rfl) ?_ ?_; rotate_left; (focus (intro c9 us w9 hm9 hS9 hF; clear hF hm9; go_simp; (try with_reducible rfl); done)); simp only [Act.put, List.setIfInBounds_toArray, List.set_cons_zero, List.set_cons_succ]
            refine late_pure (by simp) (fun _ _ _ _ h => h) (v := .slice D dat.length dc) (fun _ => rfl) ?_ ?_; (focus (intro c9 us w9 hm9 hS9 hF; clear hF; have hc9 : c9 < 2 := Nat.lt_of_not_le fun h => (by rw [mayAt_no (d := 1) (by kernel_rfl) h (by decide)] at hm9; cases hm9); have q4 := (hS9.at_ hc9).1.q4 rfl; clear hm9 hS9; go_simp; (try with_reducible rfl); done)); simp only [Act.put, List.setIfInBounds_toArray, List.set_cons_zero, List.set_cons_succ]
            refine late_pure (by simp) (fun _ _ _ _ h => h) (v := ?_) (fun _ => rfl) ?_ ?_; rotate_left; (focus (intro c9 us w9 hm9 hS9 hF; clear hF hm9; go_simp; (try with_reducible rfl); done)); simp only [Act.put, List.setIfInBounds_toArray, List.set_cons_zero, List.set_cons_succ]
            refine late_chain_V (fun u _ => ∃ v : Nat, (v : Int) < 256 ∧ u = .int .i64 (v : Int)) (fun _ _ _ _ h => h) (by simp) ?_ ?_; (focus (intro us w9 hS9 hF K hK; clear hF; rw [if_pos (by rfl)]; go_simp; refine (NA.out _ _ _ _ _ 256 hS9.1 (by omega) (by decide) (by decide)).mono ?_; rintro en w5 ⟨v, hv, -, -, -, -, -, rfl, hA5, k5⟩; exact hK _ w5 ⟨v, hv, rfl⟩ ⟨hA5, hS9.2.keeps k5 (by decide)⟩ (fun g cs _ r => k5.row r (by decide)))); simp only [Act.put, List.setIfInBounds_toArray, List.set_cons_zero, List.set_cons_succ]
            refine late_free (by simp) (fun u _ => ∃ v : Nat, (v : Int) < 256 ∧ u = .int .u8 (v : Int)) (fun _ _ _ _ h => h) ?_ ?_; (focus (intro c9 us w9 hm9 hS9 hF K hK; obtain ⟨v, hv, hu⟩ := hF (3, fun u _ => ∃ v : Nat, (v : Int) < 256 ∧ u = .int .i64 (v : Int)) (by simp) (by kernel_rfl); have hc5 := u8w hv; clear hF hm9; rw [if_pos (by rfl)]; simp only at hu; simp only [hu] at hK ⊢; go_simp; exact hK _ w9 hS9 (fun _ _ _ r => r) ⟨v, hv, rfl⟩)); simp only [Act.put, List.setIfInBounds_toArray, List.set_cons_zero, List.set_cons_succ]
            refine late_free (by simp) (BytV D dat.length dc) BytV.mono ?_ ?_; (focus (intro c9 us w9 hm9 hS9 hF K hK; have hc9 : c9 < 2 := Nat.lt_of_not_le fun h => (by rw [mayAt_no (d := 1) (by kernel_rfl) h (by decide)] at hm9; cases hm9); obtain ⟨v, hv, hu⟩ := hF (4, fun u _ => ∃ v : Nat, (v : Int) < 256 ∧ u = .int .u8 (v : Int)) (by simp) (by kernel_rfl); clear hF hm9; rw [if_pos (by rfl)]; simp only at hu; simp only [hu] at hK ⊢; go_simp; exact hK _ _ (hS9.below ((Below.refl _ _).alloc (Nat.le_refl _) _)) (fun g cs _ r => r.below ((Below.refl _ _).alloc (Nat.le_refl _) _) r.lt) ⟨w9.heap.size, v, rfl, u8l hv, fun e => by have := (World.ownsRow.lt (hS9.at_ hc9).2 _ e).2; omega, Row.born w9 5 _⟩)); simp only [Act.put, List.setIfInBounds_toArray, List.set_cons_zero, List.set_cons_succ]
            refine late_chain (by simp) ?_ ?_; (focus (intro us w9 hS9 hF K hK; obtain ⟨g, v, hu, hv, hne, r5⟩ := hF (5, BytV D dat.length dc) (by simp) (by kernel_rfl); clear hF; rw [if_pos (by rfl)]; simp only at hu; simp only [hu] at hK ⊢; refine step_append_b (P := Tryd.prog) (base := gm + 1) (n := dat.length) (m := 1) (c' := 1) (cs := [UInt8.ofNat v]) Tryd.underlying23 info_u8 hS9.2 (isB1 r5 hv) (by omega) hS9.1.m.lt rfl rfl ?_; intro A6 c6 w6 ho6 hb6 hg6 hat6; exact hK _ w6 ⟨A6, c6, _, by simp, hS9.1.hi hb6, ho6⟩ (fun g2 cs hn r => (hg6.block g2 r.lt (fun e => hn e.symm)).trans r))); simp only [Act.put, List.setIfInBounds_toArray, List.set_cons_zero, List.set_cons_succ]
            refine late_pure (by simp) (fun _ _ _ _ h => h) (v := ?_) (fun _ => rfl) ?_ ?_; rotate_left; (focus (intro c9 us w9 hm9 hS9 hF; clear hF hm9; go_simp; (try with_reducible rfl); done)); simp only [Act.put, List.setIfInBounds_toArray, List.set_cons_zero, List.set_cons_succ]
            refine late_store (by simp) ?_ ?_; (focus (intro us w9 hS9 hF K hK; obtain ⟨A6, c6, x, hu, hA6, ho6⟩ := hS9; clear hF; rw [if_pos (by rfl)]; simp only [hu] at hK ⊢; have q46 := hA6.q4 rfl; have f46 := hA6.m.frozen 4; go_simp; exact hK _ ⟨A6, c6, x, hA6.set 4 _ (by simp [mdV]), ho6.keeps (Keeps.upd (ts := [35]) (Upd.setCell w9 gm 4 _) hA6.m (by simp)) (by decide)⟩ (fun g2 cs hn r => r.upd (Upd.setCell w9 gm 4 _) (fun e => by subst e; have := r.symm.trans hA6.m; cases this))))
            refine late_done fun us w8 hS8 hF => ?_
            obtain ⟨A6, c6, x6, hA7, od7⟩ := hS8
            clear hF
            go_wp2
            refine ⟨⟨dat.length + 1, A6, c6, dat ++ [x6], k2 + 1, by omega, by go_num, by simp, od7, hA7, by omega⟩, by simp [intOf]; omega⟩
          · obtain rfl : q = sz := by omega
            have d1 : decide (q < q) = false := by simp
            have q1 : wr.cell? ⟨gm, 1, none⟩ = some (.int .i64 1) := hA.m.cell 1
            go_upto_region 22 with (fail)
            obtain ⟨e8, he8⟩ : ∃ e8, q / 8 = e8 := ⟨_, rfl⟩
            have dv : (q : Int).tdiv 8 = (e8 : Int) := by rw [tdiv8 q, he8]
            rw [he8] at hz8
            have hz9 : e8 ≤ 1000 := by omega
            have HE8 := Lib.hid he8
            have dw : IntKind.i64.wrap (e8 : Int) = (e8 : Int) := by rw [IntKind.wrap_i64]; omega
            have NX8 := Lib.hid (NA.out _ _ _ _ _ (e8 : Int) hA (by omega) (by omega) (by omega))
            clear he8
            go_upto_region 23 with (go_at_call 24; (with_reducible refine NX8.out.mono ?_); rintro en w5 ⟨v, hv, hv0, -, -, -, -, rfl, hA5, k5⟩; have q35 : w5.cell? ⟨gm, 3, none⟩ = some (.int .i64 0) := hA5.m.cell 3; have f35 := hA5.m.frozen 3)
            have od := (od.keeps k5 (by decide)).keeps (Keeps.upd (ts := [35]) (Upd.setCell w5 gm 3 (.int .i64 (v : Int))) hA5.m (by simp)) (by decide)
            have hA := hA5.set 3 (.int .i64 (v : Int)) (cs2 := (mdV (⟨nm, 1, wd, (v : Int), dat⟩ : Md) D dc).toArray) (by simp [mdV])
            clear q35 f35 hA5 k5 NX8
            generalize w5.setCell ⟨gm, 3, none⟩ (.int .i64 (v : Int)) = w8 at *
            have hbm : W.heap.size ≤ gm + 1 := by have := hA.gb; have := hA.s.gw; omega
            have how := ho.keeps hA.s.kp (by decide) (by decide)
            have hd6 := od.lower hbm
            have HCK := Lib.hid (HC.out (v : Int) dat hdl hv0 (by rw [HE8.out]; exact hv))
            have hdl2 : dat.length ≤ 130 := by omega
            subst hdl
            clear q1 od d1 hbm HC
            have hrx := Row.range hA.m
            have hal := (Below.refl w8.heap.size w8).alloc (Nat.le_refl _) (.cells (mdV (⟨nm, 1, wd, (v : Int), dat⟩ : Md) D dc).toArray 35)
            have hob := how.below hal
            have hdb := hd6.below hal
            have rx := Row.born w8 35 (mdV (⟨nm, 1, wd, (v : Int), dat⟩ : Md) D dc).toArray
            have hro := hA.s.ro.below hal hA.s.ro.lt
            have hB := hA.s.be.trans (hal.mono hA.s.be.size)
            have hbs := hB.size
            go_wp2_with (first | ((with_reducible refine wp_load_g ?_ hrx Tryd.underlying35 rfl (info35 _ _ _) ?_ ?_); rfl; rfl) | (refine wp_build_1 (P := Tryd.prog) rfl rfl Tryd.underlying25 info_md (L := (mdV (⟨nm, 1, wd, (v : Int), dat⟩ : Md) D dc).toArray) rfl (by omega) (by omega) rfl ?_) | (at_builtin; (refine wp_append_v (P := Tryd.prog) rfl _ _ 25 rfl Tryd.underlying25 info_md rfl (by omega) hob.ro rx rfl (mdV_ones _ _ _) (by omega) (by omega) hbs rfl rfl ?_); intro A8 c8 w9 h28 h38))
            have hB := hB.grown h38 hbs (fun k hk => (hob.ro.ge k hk).1)
            have ho := hob.app hdb h28 h38
            have hro := (Keeps.grown h38 hob.ro.typed).row hro (by decide)
            have hlen : (ms ++ [(⟨nm, 1, wd, (v : Int), dat⟩ : Md)]).length = ms.length + 1 := by simp
            rw [← hlen] at ho
            refine ⟨⟨j + 1, ms ++ [(⟨nm, 1, wd, (v : Int), dat⟩ : Md)], A8, c8, _, _, by omega, by go_num, by rw [hlen], by rw [hlen]; omega, hgd.snoc (by omega) HCK.out hdl2 hnm, ho, ⟨Keeps.refl _ _, hB, hro, hro.lt, hB.size⟩, by omega⟩, by simp [intOf]; omega⟩
      · have X130 := Lib.hid (NA.out _ _ _ _ _ 130 hA (by omega) (by decide) (by decide))
        go_upto_region 18 with (go_at_call 24; (with_reducible refine X130.out.mono ?_); rintro en w5 ⟨sz, hsz, -, -, -, -, -, rfl, hA, -⟩; have q1 : w5.cell? ⟨gm, 1, none⟩ = some (.int .i64 2) := hA.m.cell 1)
        have hsz2 : sz ≤ 130 := by omega
        have HC := Lib.hid (fun (e : Int) (dat : List UInt8) (hd : dat.length = sz) (h0 : e = 0) => chk_zero (kd := 2) (dat := dat) hnm (by decide) (.inr ⟨by decide, hwd⟩) (fun h => absurd h (by decide)) (by omega) (fun h => absurd h (by decide)) (fun _ => h0) HF.out)
        clear q0 q1 hv hv0 hv1 hv2 X130 hsz
        generalize w5 = w9 at *
        generalize wr = wo at *
        have hA0 : NuA W wo gs A n c gm (mdV ⟨nm, 2, wd, 0, []⟩ none 0).toArray (k + 5) w9 := hA
        clear hA
        go_loopw [13] (fun i wr => ∃ (q : Nat) (D : Option Addr) (dc : Nat) (dat : List UInt8) (k2 : Nat), q ≤ sz ∧ i = .int .i64 q ∧ dat.length = q ∧ OwnB wr (gm + 1) 5 D q dc dat ∧ NuA W wo gs A n c gm (mdV ⟨nm, 2, wd, 0, dat⟩ D dc).toArray k2 wr ∧ k2 ≤ k + 5 + q) (fun i _ => sz - (intOf i).toNat)
        case atStart => exact ⟨0, none, 0, [], _, by omega, rfl, rfl, OwnB.nil _ _ _, hA0, by omega⟩
        case round =>
          clear hA0
          obtain ⟨q, D, dc, dat, k2, hq, rfl, hdl, od, hA, hk2⟩ := hrel
          rcases Nat.lt_or_ge q sz with hql | hql
          · have d1 : decide (q < sz) = true := decide_eq_true hql
            have hqi : (q : Int) < sz := by omega
            subst hdl
            go_upto_region 20 with (fail)
            refine wp_region_late (n := 92) [3, 6, 8] (BytS W wo gs A n c gm ⟨nm, 2, wd, 0, dat⟩ D dc k2) (BytG D dat.length dc) (by kernel_rfl) (by kernel_rfl) (by rfl) BytS.loc ⟨hA.drew, od.below (Below.refl _ _).drew⟩ ?_
            refine late_pure (by simp) (fun _ _ _ _ h => h) (v := ?_) (fun _ => rfl) ?_ ?_; rotate_left; (focus (intro c9 us w9 hm9 hS9 hF; clear hF hm9; go_simp; (try with_reducible rfl); done)); simp only [Act.put, List.setIfInBounds_toArray, List.set_cons_zero, List.set_cons_succ]
            refine late_pure (by simp) (fun _ _ _ _ h => h) (v := .slice D dat.length dc) (fun _ => rfl) ?_ ?_; (focus (intro c9 us w9 hm9 hS9 hF; clear hF; have hc9 : c9 < 2 := Nat.lt_of_not_le fun h => (by rw [mayAt_no (d := 1) (by kernel_rfl) h (by decide)] at hm9; cases hm9); have q4 := (hS9.at_ hc9).1.q4 rfl; clear hm9 hS9; go_simp; (try with_reducible rfl); done)); simp only [Act.put, List.setIfInBounds_toArray, List.set_cons_zero, List.set_cons_succ]
            refine late_pure (by simp) (fun _ _ _ _ h => h) (v := ?_) (fun _ => rfl) ?_ ?_; rotate_left; (focus (intro c9 us w9 hm9 hS9 hF; clear hF hm9; go_simp; (try with_reducible rfl); done)); simp only [Act.put, List.setIfInBounds_toArray, List.set_cons_zero, List.set_cons_succ]
            refine late_chain_V (fun u _ => ∃ v : Nat, (v : Int) < 256 ∧ u = .int .i64 (v : Int)) (fun _ _ _ _ h => h) (by simp) ?_ ?_; (focus (intro us w9 hS9 hF K hK; clear hF; rw [if_pos (by rfl)]; go_simp; refine (NA.out _ _ _ _ _ 256 hS9.1 (by omega) (by decide) (by decide)).mono ?_; rintro en w5 ⟨v, hv, -, -, -, -, -, rfl, hA5, k5⟩; exact hK _ w5 ⟨v, hv, rfl⟩ ⟨hA5, hS9.2.keeps k5 (by decide)⟩ (fun g cs _ r => k5.row r (by decide)))); simp only [Act.put, List.setIfInBounds_toArray, List.set_cons_zero, List.set_cons_succ]
            refine late_free (by simp) (fun u _ => ∃ v : Nat, (v : Int) < 256 ∧ u = .int .u8 (v : Int)) (fun _ _ _ _ h => h) ?_ ?_; (focus (intro c9 us w9 hm9 hS9 hF K hK; obtain ⟨v, hv, hu⟩ := hF (3, fun u _ => ∃ v : Nat, (v : Int) < 256 ∧ u = .int .i64 (v : Int)) (by simp) (by kernel_rfl); have hc5 := u8w hv; clear hF hm9; rw [if_pos (by rfl)]; simp only at hu; simp only [hu] at hK ⊢; go_simp; exact hK _ w9 hS9 (fun _ _ _ r => r) ⟨v, hv, rfl⟩)); simp only [Act.put, List.setIfInBounds_toArray, List.set_cons_zero, List.set_cons_succ]
            refine late_free (by simp) (BytV D dat.length dc) BytV.mono ?_ ?_; (focus (intro c9 us w9 hm9 hS9 hF K hK; have hc9 : c9 < 2 := Nat.lt_of_not_le fun h => (by rw [mayAt_no (d := 1) (by kernel_rfl) h (by decide)] at hm9; cases hm9); obtain ⟨v, hv, hu⟩ := hF (4, fun u _ => ∃ v : Nat, (v : Int) < 256 ∧ u = .int .u8 (v : Int)) (by simp) (by kernel_rfl); clear hF hm9; rw [if_pos (by rfl)]; simp only at hu; simp only [hu] at hK ⊢; go_simp; exact hK _ _ (hS9.below ((Below.refl _ _).alloc (Nat.le_refl _) _)) (fun g cs _ r => r.below ((Below.refl _ _).alloc (Nat.le_refl _) _) r.lt) ⟨w9.heap.size, v, rfl, u8l hv, fun e => by have := (World.ownsRow.lt (hS9.at_ hc9).2 _ e).2; omega, Row.born w9 5 _⟩)); simp only [Act.put, List.setIfInBounds_toArray, List.set_cons_zero, List.set_cons_succ]
            refine late_chain (by simp) ?_ ?_; (focus (intro us w9 hS9 hF K hK; obtain ⟨g, v, hu, hv, hne, r5⟩ := hF (5, BytV D dat.length dc) (by simp) (by kernel_rfl); clear hF; rw [if_pos (by rfl)]; simp only at hu; simp only [hu] at hK ⊢; refine step_append_b (P := Tryd.prog) (base := gm + 1) (n := dat.length) (m := 1) (c' := 1) (cs := [UInt8.ofNat v]) Tryd.underlying23 info_u8 hS9.2 (isB1 r5 hv) (by omega) hS9.1.m.lt rfl rfl ?_; intro A6 c6 w6 ho6 hb6 hg6 hat6; exact hK _ w6 ⟨A6, c6, _, by simp, hS9.1.hi hb6, ho6⟩ (fun g2 cs hn r => (hg6.block g2 r.lt (fun e => hn e.symm)).trans r))); simp only [Act.put, List.setIfInBounds_toArray, List.set_cons_zero, List.set_cons_succ]
            refine late_pure (by simp) (fun _ _ _ _ h => h) (v := ?_) (fun _ => rfl) ?_ ?_; rotate_left; (focus (intro c9 us w9 hm9 hS9 hF; clear hF hm9; go_simp; (try with_reducible rfl); done)); simp only [Act.put, List.setIfInBounds_toArray, List.set_cons_zero, List.set_cons_succ]
            refine late_store (by simp) ?_ ?_; (focus (intro us w9 hS9 hF K hK; obtain ⟨A6, c6, x, hu, hA6, ho6⟩ := hS9; clear hF; rw [if_pos (by rfl)]; simp only [hu] at hK ⊢; have q46 := hA6.q4 rfl; have f46 := hA6.m.frozen 4; go_simp; exact hK _ ⟨A6, c6, x, hA6.set 4 _ (by simp [mdV]), ho6.keeps (Keeps.upd (ts := [35]) (Upd.setCell w9 gm 4 _) hA6.m (by simp)) (by decide)⟩ (fun g2 cs hn r => r.upd (Upd.setCell w9 gm 4 _) (fun e => by subst e; have := r.symm.trans hA6.m; cases this))))
            refine late_done fun us w8 hS8 hF => ?_
            obtain ⟨A6, c6, x6, hA7, od7⟩ := hS8
            clear hF
            go_wp2
            refine ⟨⟨dat.length + 1, A6, c6, dat ++ [x6], k2 + 1, by omega, by go_num, by simp, od7, hA7, by omega⟩, by simp [intOf]; omega⟩
          · obtain rfl : q = sz := by omega
            have d1 : decide (q < q) = false := by simp
            have q1 : wr.cell? ⟨gm, 1, none⟩ = some (.int .i64 2) := hA.m.cell 1
            go_upto_region 23 with (fail)
            generalize wr = w8 at *
            have hbm : W.heap.size ≤ gm + 1 := by have := hA.gb; have := hA.s.gw; omega
            have how := ho.keeps hA.s.kp (by decide) (by decide)
            have hd6 := od.lower hbm
            have HCK := Lib.hid (HC.out 0 dat hdl (by decide))
            have hdl2 : dat.length ≤ 130 := by omega
            subst hdl
            clear q1 od d1 hbm HC
            have hrx := Row.range hA.m
            have hal := (Below.refl w8.heap.size w8).alloc (Nat.le_refl _) (.cells (mdV (⟨nm, 2, wd, 0, dat⟩ : Md) D dc).toArray 35)
            have hob := how.below hal
            have hdb := hd6.below hal
            have rx := Row.born w8 35 (mdV (⟨nm, 2, wd, 0, dat⟩ : Md) D dc).toArray
            have hro := hA.s.ro.below hal hA.s.ro.lt
            have hB := hA.s.be.trans (hal.mono hA.s.be.size)
            have hbs := hB.size
            go_wp2_with (first | ((with_reducible refine wp_load_g ?_ hrx Tryd.underlying35 rfl (info35 _ _ _) ?_ ?_); rfl; rfl) | (refine wp_build_1 (P := Tryd.prog) rfl rfl Tryd.underlying25 info_md (L := (mdV (⟨nm, 2, wd, 0, dat⟩ : Md) D dc).toArray) rfl (by omega) (by omega) rfl ?_) | (at_builtin; (refine wp_append_v (P := Tryd.prog) rfl _ _ 25 rfl Tryd.underlying25 info_md rfl (by omega) hob.ro rx rfl (mdV_ones _ _ _) (by omega) (by omega) hbs rfl rfl ?_); intro A8 c8 w9 h28 h38))
            have hB := hB.grown h38 hbs (fun k hk => (hob.ro.ge k hk).1)
            have ho := hob.app hdb h28 h38
            have hro := (Keeps.grown h38 hob.ro.typed).row hro (by decide)
            have hlen : (ms ++ [(⟨nm, 2, wd, 0, dat⟩ : Md)]).length = ms.length + 1 := by simp
            rw [← hlen] at ho
            refine ⟨⟨j + 1, ms ++ [(⟨nm, 2, wd, 0, dat⟩ : Md)], A8, c8, _, _, by omega, by go_num, by rw [hlen], by rw [hlen]; omega, hgd.snoc (by omega) HCK.out hdl2 hnm, ho, ⟨Keeps.refl _ _, hB, hro, hro.lt, hB.size⟩, by omega⟩, by simp [intOf]; omega⟩
      · have X130 := Lib.hid (NA.out _ _ _ _ _ 130 hA (by omega) (by decide) (by decide))
        go_upto_region 15 with (go_at_call 24; (with_reducible refine X130.out.mono ?_); rintro en w5 ⟨sz, hsz, -, -, -, -, -, rfl, hA, -⟩; have q1 : w5.cell? ⟨gm, 1, none⟩ = some (.int .i64 3) := hA.m.cell 1; have q2 : w5.cell? ⟨gm, 2, none⟩ = some (.int .i64 wd) := hA.m.cell 2; have f2 := hA.m.frozen 2)
        have hsz2 : sz ≤ 130 := by omega
        have hA6 := hA.set 2 (.int .i64 0) (cs2 := (mdV (⟨nm, 3, 0, 0, []⟩ : Md) none 0).toArray) (by simp [mdV])
        clear q0 q1 hv hv0 hv1 hv2 X130 hsz q2 f2 hA HF
        generalize w5.setCell ⟨gm, 2, none⟩ (.int .i64 0) = w6 at *
        have q0 : w6.cell? ⟨gm, 0, none⟩ = some (.string (sv nm)) := hA6.m.cell 0
        have hwc := ho.keeps hA6.s.kp (by decide) (by decide)
        have hwm := hwc.isMs
        obtain ⟨b, hb⟩ : ∃ b, fndB ms nm 0 = b := ⟨_, rfl⟩
        obtain ⟨x2, hx⟩ : ∃ x2, fndK ms nm 0 = x2 := ⟨_, rfl⟩
        have F1 := Lib.hid (rfind_is ⟨hx, hb⟩ A1 ms.length c1 rfl w6 hwm hml)
        have HF := Lib.hid hb
        clear hx hb hwm
        cases b
        case true =>
          go_wp2_with (go_at_call 21; (with_reducible refine F1.out.mono ?_); rintro en w7 ⟨rfl, hb7⟩)
          exact ⟨⟨j + 1, ms, A1, c1, qs, k + 5, by omega, by go_num, rfl, by omega, hgd, hwc.below hb7, (hA6.below hb7).s.self, by omega⟩, by simp [intOf]; omega⟩
        case false =>
        go_upto_region 18 with (go_at_call 21; (with_reducible refine F1.out.mono ?_); rintro en w7 ⟨rfl, hb7⟩)
        have hA := hA6.below hb7
        have HC := Lib.hid (fun (e : Int) (dat : List UInt8) (hd : dat.length = sz) (h0 : e = 0) => chk_zero (kd := 3) (dat := dat) hnm (by decide) (.inl ⟨rfl, rfl⟩) (fun h => absurd h (by decide)) (by omega) (fun h => absurd h (by decide)) (fun _ => h0) HF.out)
        clear q0 hA6 hb7 F1 hwc
        generalize w7 = w9 at *
        generalize wr = wo at *
        have hA0 : NuA W wo gs A n c gm (mdV ⟨nm, 3, 0, 0, []⟩ none 0).toArray (k + 5) w9 := hA
        clear hA
        go_loopw [13] (fun i wr => ∃ (q : Nat) (D : Option Addr) (dc : Nat) (dat : List UInt8) (k2 : Nat), q ≤ sz ∧ i = .int .i64 q ∧ dat.length = q ∧ OwnB wr (gm + 1) 5 D q dc dat ∧ NuA W wo gs A n c gm (mdV ⟨nm, 3, 0, 0, dat⟩ D dc).toArray k2 wr ∧ k2 ≤ k + 5 + q) (fun i _ => sz - (intOf i).toNat)
        case atStart => exact ⟨0, none, 0, [], _, by omega, rfl, rfl, OwnB.nil _ _ _, hA0, by omega⟩
        case round =>
          clear hA0
          obtain ⟨q, D, dc, dat, k2, hq, rfl, hdl, od, hA, hk2⟩ := hrel
          rcases Nat.lt_or_ge q sz with hql | hql
          · have d1 : decide (q < sz) = true := decide_eq_true hql
            have hqi : (q : Int) < sz := by omega
            subst hdl
            go_upto_region 20 with (fail)
            refine wp_region_late (n := 92) [3, 6, 8] (BytS W wo gs A n c gm ⟨nm, 3, 0, 0, dat⟩ D dc k2) (BytG D dat.length dc) (by kernel_rfl) (by kernel_rfl) (by rfl) BytS.loc ⟨hA.drew, od.below (Below.refl _ _).drew⟩ ?_
            refine late_pure (by simp) (fun _ _ _ _ h => h) (v := ?_) (fun _ => rfl) ?_ ?_; rotate_left; (focus (intro c9 us w9 hm9 hS9 hF; clear hF hm9; go_simp; (try with_reducible rfl); done)); simp only [Act.put, List.setIfInBounds_toArray, List.set_cons_zero, List.set_cons_succ]
            refine late_pure (by simp) (fun _ _ _ _ h => h) (v := .slice D dat.length dc) (fun _ => rfl) ?_ ?_; (focus (intro c9 us w9 hm9 hS9 hF; clear hF; have hc9 : c9 < 2 := Nat.lt_of_not_le fun h => (by rw [mayAt_no (d := 1) (by kernel_rfl) h (by decide)] at hm9; cases hm9); have q4 := (hS9.at_ hc9).1.q4 rfl; clear hm9 hS9; go_simp; (try with_reducible rfl); done)); simp only [Act.put, List.setIfInBounds_toArray, List.set_cons_zero, List.set_cons_succ]
            refine late_pure (by simp) (fun _ _ _ _ h => h) (v := ?_) (fun _ => rfl) ?_ ?_; rotate_left; (focus (intro c9 us w9 hm9 hS9 hF; clear hF hm9; go_simp; (try with_reducible rfl); done)); simp only [Act.put, List.setIfInBounds_toArray, List.set_cons_zero, List.set_cons_succ]
            refine late_chain_V (fun u _ => ∃ v : Nat, (v : Int) < 256 ∧ u = .int .i64 (v : Int)) (fun _ _ _ _ h => h) (by simp) ?_ ?_; (focus (intro us w9 hS9 hF K hK; clear hF; rw [if_pos (by rfl)]; go_simp; refine (NA.out _ _ _ _ _ 256 hS9.1 (by omega) (by decide) (by decide)).mono ?_; rintro en w5 ⟨v, hv, -, -, -, -, -, rfl, hA5, k5⟩; exact hK _ w5 ⟨v, hv, rfl⟩ ⟨hA5, hS9.2.keeps k5 (by decide)⟩ (fun g cs _ r => k5.row r (by decide)))); simp only [Act.put, List.setIfInBounds_toArray, List.set_cons_zero, List.set_cons_succ]
            refine late_free (by simp) (fun u _ => ∃ v : Nat, (v : Int) < 256 ∧ u = .int .u8 (v : Int)) (fun _ _ _ _ h => h) ?_ ?_; (focus (intro c9 us w9 hm9 hS9 hF K hK; obtain ⟨v, hv, hu⟩ := hF (3, fun u _ => ∃ v : Nat, (v : Int) < 256 ∧ u = .int .i64 (v : Int)) (by simp) (by kernel_rfl); have hc5 := u8w hv; clear hF hm9; rw [if_pos (by rfl)]; simp only at hu; simp only [hu] at hK ⊢; go_simp; exact hK _ w9 hS9 (fun _ _ _ r => r) ⟨v, hv, rfl⟩)); simp only [Act.put, List.setIfInBounds_toArray, List.set_cons_zero, List.set_cons_succ]
            refine late_free (by simp) (BytV D dat.length dc) BytV.mono ?_ ?_; (focus (intro c9 us w9 hm9 hS9 hF K hK; have hc9 : c9 < 2 := Nat.lt_of_not_le fun h => (by rw [mayAt_no (d := 1) (by kernel_rfl) h (by decide)] at hm9; cases hm9); obtain ⟨v, hv, hu⟩ := hF (4, fun u _ => ∃ v : Nat, (v : Int) < 256 ∧ u = .int .u8 (v : Int)) (by simp) (by kernel_rfl); clear hF hm9; rw [if_pos (by rfl)]; simp only at hu; simp only [hu] at hK ⊢; go_simp; exact hK _ _ (hS9.below ((Below.refl _ _).alloc (Nat.le_refl _) _)) (fun g cs _ r => r.below ((Below.refl _ _).alloc (Nat.le_refl _) _) r.lt) ⟨w9.heap.size, v, rfl, u8l hv, fun e => by have := (World.ownsRow.lt (hS9.at_ hc9).2 _ e).2; omega, Row.born w9 5 _⟩)); simp only [Act.put, List.setIfInBounds_toArray, List.set_cons_zero, List.set_cons_succ]
            refine late_chain (by simp) ?_ ?_; (focus (intro us w9 hS9 hF K hK; obtain ⟨g, v, hu, hv, hne, r5⟩ := hF (5, BytV D dat.length dc) (by simp) (by kernel_rfl); clear hF; rw [if_pos (by rfl)]; simp only at hu; simp only [hu] at hK ⊢; refine step_append_b (P := Tryd.prog) (base := gm + 1) (n := dat.length) (m := 1) (c' := 1) (cs := [UInt8.ofNat v]) Tryd.underlying23 info_u8 hS9.2 (isB1 r5 hv) (by omega) hS9.1.m.lt rfl rfl ?_; intro A6 c6 w6 ho6 hb6 hg6 hat6; exact hK _ w6 ⟨A6, c6, _, by simp, hS9.1.hi hb6, ho6⟩ (fun g2 cs hn r => (hg6.block g2 r.lt (fun e => hn e.symm)).trans r))); simp only [Act.put, List.setIfInBounds_toArray, List.set_cons_zero, List.set_cons_succ]
            refine late_pure (by simp) (fun _ _ _ _ h => h) (v := ?_) (fun _ => rfl) ?_ ?_; rotate_left; (focus (intro c9 us w9 hm9 hS9 hF; clear hF hm9; go_simp; (try with_reducible rfl); done)); simp only [Act.put, List.setIfInBounds_toArray, List.set_cons_zero, List.set_cons_succ]
            refine late_store (by simp) ?_ ?_; (focus (intro us w9 hS9 hF K hK; obtain ⟨A6, c6, x, hu, hA6, ho6⟩ := hS9; clear hF; rw [if_pos (by rfl)]; simp only [hu] at hK ⊢; have q46 := hA6.q4 rfl; have f46 := hA6.m.frozen 4; go_simp; exact hK _ ⟨A6, c6, x, hA6.set 4 _ (by simp [mdV]), ho6.keeps (Keeps.upd (ts := [35]) (Upd.setCell w9 gm 4 _) hA6.m (by simp)) (by decide)⟩ (fun g2 cs hn r => r.upd (Upd.setCell w9 gm 4 _) (fun e => by subst e; have := r.symm.trans hA6.m; cases this))))
            refine late_done fun us w8 hS8 hF => ?_
            obtain ⟨A6, c6, x6, hA7, od7⟩ := hS8
            clear hF
            go_wp2
            refine ⟨⟨dat.length + 1, A6, c6, dat ++ [x6], k2 + 1, by omega, by go_num, by simp, od7, hA7, by omega⟩, by simp [intOf]; omega⟩
          · obtain rfl : q = sz := by omega
            have d1 : decide (q < q) = false := by simp
            have q1 : wr.cell? ⟨gm, 1, none⟩ = some (.int .i64 3) := hA.m.cell 1
            go_upto_region 23 with (fail)
            generalize wr = w8 at *
            have hbm : W.heap.size ≤ gm + 1 := by have := hA.gb; have := hA.s.gw; omega
            have how := ho.keeps hA.s.kp (by decide) (by decide)
            have hd6 := od.lower hbm
            have HCK := Lib.hid (HC.out 0 dat hdl (by decide))
            have hdl2 : dat.length ≤ 130 := by omega
            subst hdl
            clear q1 od d1 hbm HC
            have hrx := Row.range hA.m
            have hal := (Below.refl w8.heap.size w8).alloc (Nat.le_refl _) (.cells (mdV (⟨nm, 3, 0, 0, dat⟩ : Md) D dc).toArray 35)
            have hob := how.below hal
            have hdb := hd6.below hal
            have rx := Row.born w8 35 (mdV (⟨nm, 3, 0, 0, dat⟩ : Md) D dc).toArray
            have hro := hA.s.ro.below hal hA.s.ro.lt
            have hB := hA.s.be.trans (hal.mono hA.s.be.size)
            have hbs := hB.size
            go_wp2_with (first | ((with_reducible refine wp_load_g ?_ hrx Tryd.underlying35 rfl (info35 _ _ _) ?_ ?_); rfl; rfl) | (refine wp_build_1 (P := Tryd.prog) rfl rfl Tryd.underlying25 info_md (L := (mdV (⟨nm, 3, 0, 0, dat⟩ : Md) D dc).toArray) rfl (by omega) (by omega) rfl ?_) | (at_builtin; (refine wp_append_v (P := Tryd.prog) rfl _ _ 25 rfl Tryd.underlying25 info_md rfl (by omega) hob.ro rx rfl (mdV_ones _ _ _) (by omega) (by omega) hbs rfl rfl ?_); intro A8 c8 w9 h28 h38))
            have hB := hB.grown h38 hbs (fun k hk => (hob.ro.ge k hk).1)
            have ho := hob.app hdb h28 h38
            have hro := (Keeps.grown h38 hob.ro.typed).row hro (by decide)
            have hlen : (ms ++ [(⟨nm, 3, 0, 0, dat⟩ : Md)]).length = ms.length + 1 := by simp
            rw [← hlen] at ho
            refine ⟨⟨j + 1, ms ++ [(⟨nm, 3, 0, 0, dat⟩ : Md)], A8, c8, _, _, by omega, by go_num, by rw [hlen], by rw [hlen]; omega, hgd.snoc (by omega) HCK.out hdl2 hnm, ho, ⟨Keeps.refl _ _, hB, hro, hro.lt, hB.size⟩, by omega⟩, by simp [intOf]; omega⟩
    · obtain rfl : j = n6 := by omega
      have d1 : decide (j < j) = false := by simp
      go_wp2
      go_ret
      exact ⟨ms, A1, c1, qs, hgd, rfl, ho, hS.be⟩
end Go.Proofs.YtigbmlgllgcbhaaDoor
