/- A call whose results are kept in new blocks, in a region that draws its order (and holds, ahead of the call, a copy that it takes): words for wp_region_late. -/
import Derived.Test.YtigbmlgllgcbhaaDoorLate
import Derived.Test.YtigbmlgllgcbhaaDoorCpy
namespace Go.Proofs.YtigbmlgllgcbhaaDoor
open Go.RowKit
set_option linter.unusedVariables false
theorem below_on {a w w' : World} (h : Below a.heap.size a w) (hb : Below w.heap.size w w') : Below a.heap.size a w' := h.trans (hb.mono h.size)
/-- Each block at or above B keeps its type and its size. -/
def Shp (B : Nat) (w w' : World) : Prop := ∀ b t cs, B ≤ b → Row w b t cs → ∃ cs', Row w' b t cs' ∧ cs'.size = cs.size
theorem Shp.refl (B : Nat) (w : World) : Shp B w w := fun b t cs _ h => ⟨cs, h, rfl⟩
theorem Shp.alloc (B : Nat) (w : World) (o : Obj) : Shp B w (w.alloc o) := fun b t cs _ h => ⟨cs, h.alloc o, rfl⟩
theorem Shp.below {B : Nat} {w w' : World} (hb : Below w.heap.size w w') : Shp B w w' := fun b t cs _ h => ⟨cs, h.below hb h.lt, rfl⟩
theorem Shp.upd {B g : Nat} {w w' : World} {t : TypeId} {cs L : Array Value} (u : Upd w w' g) (h : Row w g t cs) (k : Row w' g t L) (hs : cs.size = L.size) : Shp B w w' := fun b t' cs' _ h' => by
  by_cases hb : b = g
  · subst hb
    have e := h.symm.trans h'
    injection e with e
    injection e with e1 e2 e3
    subst e1 e2
    exact ⟨L, k, hs.symm⟩
  · exact ⟨cs', h'.upd u hb, rfl⟩
/-- A pointer to a new block of that type and size. -/
def PtrN (B : Nat) (t : TypeId) (n : Nat) (u : Value) (w : World) : Prop := ∃ b cs, u = .pointer (some ⟨b, 0, none⟩) ∧ B ≤ b ∧ Row w b t cs ∧ cs.size = n
theorem PtrN.mono {B : Nat} {t : TypeId} {n : Nat} (u : Value) (w w' : World) (h : Shp B w w') (k : PtrN B t n u w) : PtrN B t n u w' := by
  obtain ⟨b, cs, e, hB, hr, hn⟩ := k
  obtain ⟨cs', hr', hn'⟩ := h b t cs hB hr
  exact ⟨b, cs', e, hB, hr', by omega⟩
/-- A pointer to a new block that holds L. -/
def PtrL (B : Nat) (t : TypeId) (L : Array Value) (u : Value) (w : World) : Prop := ∃ b, u = .pointer (some ⟨b, 0, none⟩) ∧ B ≤ b ∧ Row w b t L
theorem PtrL.below {B : Nat} {t : TypeId} {L : Array Value} {u : Value} {w w' : World} (h : PtrL B t L u w) (hb : Below w.heap.size w w') : PtrL B t L u w' := by
  obtain ⟨b, e, hB, hr⟩ := h
  exact ⟨b, e, hB, hr.below hb hr.lt⟩
theorem PtrL.upd {B g : Nat} {t t' : TypeId} {L cs : Array Value} {u : Value} {w w' : World} (h : PtrL B t L u w) (hu : Upd w w' g) (hr : Row w g t' cs) (hne : t ≠ t') : PtrL B t L u w' := by
  obtain ⟨b, e, hB, hrb⟩ := h
  refine ⟨b, e, hB, hrb.upd hu fun hb => hne ?_⟩
  subst hb
  have e := hrb.symm.trans hr
  injection e with e
  injection e
/-- What holds when the first c links of the chain have come up: behind the first (number ic) C of its value; from c1 on block i1 holds L1, from c2 on block i2 L2. -/
def CalS (w : World) (ic : Nat) (C : Value → World → Prop) (c1 i1 : Nat) (t1 : TypeId) (L1 : Array Value) (c2 i2 : Nat) (t2 : TypeId) (L2 : Array Value) (c : Nat) (us : Nat → Value) (w' : World) : Prop :=
  Below w.heap.size w w' ∧ (c = 1 → C (us ic) w') ∧ (c1 ≤ c → PtrL w.heap.size t1 L1 (us i1) w') ∧ (c2 ≤ c → PtrL w.heap.size t2 L2 (us i2) w')
section
variable {w w9 w' : World} {ic c1 i1 c2 i2 c g : Nat} {C : Value → World → Prop} {t1 t2 : TypeId} {L1 L2 cs : Array Value} {us : Nat → Value}
theorem CalS.loc {ops : Array Oper} {st : List Nat} (hic : ic ∈ st.take 1) (h1 : ∀ c, c1 ≤ c → mayAt ops st c i1 = false) (h2 : ∀ c, c2 ≤ c → mayAt ops st c i2 = false) :
    ∀ c us us' w', (∀ k, mayAt ops st c k = false ∨ k ∈ st.take c → us k = us' k) → CalS w ic C c1 i1 t1 L1 c2 i2 t2 L2 c us w' → CalS w ic C c1 i1 t1 L1 c2 i2 t2 L2 c us' w' := by
  intro c us us' w' hk ⟨a, b, d, e⟩
  refine ⟨a, fun hc => ?_, fun hc => ?_, fun hc => ?_⟩
  · subst hc
    rw [← hk ic (.inr hic)]
    exact b rfl
  · rw [← hk i1 (.inl (h1 c hc))]
    exact d hc
  · rw [← hk i2 (.inl (h2 c hc))]
    exact e hc
theorem CalS.start (h1 : 0 < c1) (h2 : 0 < c2) : CalS w ic C c1 i1 t1 L1 c2 i2 t2 L2 0 us w.drew := ⟨below_drewN (Below.refl _ _) 1, fun h => by omega, fun h => by omega, fun h => by omega⟩
theorem CalS.below (h : CalS w ic C c1 i1 t1 L1 c2 i2 t2 L2 c us w9) (hb : Below w9.heap.size w9 w') (hC : ∀ u w w', Below w.heap.size w w' → C u w → C u w') : CalS w ic C c1 i1 t1 L1 c2 i2 t2 L2 c us w' :=
  ⟨below_on h.1 hb, fun hc => hC _ _ _ hb (h.2.1 hc), fun hc => (h.2.2.1 hc).below hb, fun hc => (h.2.2.2 hc).below hb⟩
theorem CalS.alloc (h : CalS w ic C c1 i1 t1 L1 c2 i2 t2 L2 c us w9) (hC : ∀ u w w', Below w.heap.size w w' → C u w → C u w') (o : Obj) : CalS w ic C c1 i1 t1 L1 c2 i2 t2 L2 c us (w9.alloc o) :=
  h.below ((Below.refl _ _).alloc (Nat.le_refl _) _) hC
theorem CalS.link {V : Nat → Value} (h : CalS w ic C c1 i1 t1 L1 c2 i2 t2 L2 c us w9) (hb : Below w9.heap.size w9 w') (h1 : c + 1 < c1) (h2 : c + 1 < c2) (hC : c + 1 = 1 → C (V ic) w') : CalS w ic C c1 i1 t1 L1 c2 i2 t2 L2 (c + 1) V w' :=
  ⟨below_on h.1 hb, hC, fun hc => by omega, fun hc => by omega⟩
theorem CalS.st1 (h : CalS w ic C c1 i1 t1 L1 c2 i2 t2 L2 c us w9) (u : Upd w9 w' g) (r : Row w' g t1 L1) (hu : us i1 = .pointer (some ⟨g, 0, none⟩)) (hB : w.heap.size ≤ g) (hc : c + 1 = c1) (h12 : c1 < c2) (hC : c + 1 = 1 → C (us ic) w') :
    CalS w ic C c1 i1 t1 L1 c2 i2 t2 L2 (c + 1) us w' := ⟨Upd.below h.1 u hB, hC, fun _ => ⟨g, hu, hB, r⟩, fun hx => by omega⟩
theorem CalS.st2 (h : CalS w ic C c1 i1 t1 L1 c2 i2 t2 L2 c us w9) (u : Upd w9 w' g) (r0 : Row w9 g t2 cs) (r : Row w' g t2 L2) (hu : us i2 = .pointer (some ⟨g, 0, none⟩)) (hB : w.heap.size ≤ g) (hc : c + 1 = c2) (h12 : c1 < c2) (h0 : 0 < c) (hne : t1 ≠ t2) :
    CalS w ic C c1 i1 t1 L1 c2 i2 t2 L2 (c + 1) us w' := ⟨Upd.below h.1 u hB, fun hx => by omega, fun _ => (h.2.2.1 (by omega)).upd u r0 hne, fun _ => ⟨g, hu, hB, r⟩⟩
end
/-- A copy of bytes. -/
def CpB (m : Nat) (bs : List UInt8) (u : Value) (w : World) : Prop := ∃ A c, u = .slice A m c ∧ m ≤ c ∧ IsB w A m bs
theorem CpB.mono {m : Nat} {bs : List UInt8} (u : Value) (w w' : World) (hb : Below w.heap.size w w') (h : CpB m bs u w) : CpB m bs u w' := by
  obtain ⟨A, c, e, hc, hA⟩ := h
  exact ⟨A, c, e, hc, hA.below hb⟩
def NoC (_ : Value) (_ : World) : Prop := True
theorem NoC.mono (u : Value) (w w' : World) (_ : Below w.heap.size w w') (_ : NoC u w) : NoC u w' := trivial
theorem OwnB.capM {w : World} {base : Nat} {e : TypeId} {A : Option Addr} {n c : Nat} {bs : List UInt8} (h : OwnB w base e A n c bs) : n ≤ c := by
  rcases h.2 with ⟨h1, h2⟩ | ⟨g, cap, cur, h1, _, _, h2, _⟩
  · omega
  · injection h1 with h1 h3 h4
    omega
section
variable {P : Program} {ops : Array Oper} {st : List Nat} {S : Nat → (Nat → Value) → World → Prop} {G : World → World → Prop} {Q : Exit → Act → World → Prop}
variable {o : Oper} {rest : List Oper} {i c : Nat} {F : List (Nat × (Value → World → Prop))} {A : (Nat → Value) → Act}
/-- A link of the chain that has a temporary, whose value is v. -/
theorem late_chain_fix (v : Value) (hne : o.dst ≠ none) (hs : ∀ us w, S c us w → (∀ p ∈ F, waits o p.1 = true → p.2 (us p.1) w) → ∀ K : Act → World → Prop, (∀ w', S (c + 1) (fun k => if k = i then v else us k) w' → G w w' → K ((A us).put o.dst v) w') →
      if Region.wanted o (yielded ops (A us).tmps) = true then Oper.wp P o (A us) w K (fun _ _ _ => False) else K ((A us).put o.dst undef) w)
    (h : WalkL P ops st S G Q rest (i + 1) (c + 1) ((i, fun u _ => u = v) :: F) (fun us => (A us).put o.dst (us i))) (hi : i ∈ st := by decide) : WalkL P ops st S G Q (o :: rest) i c F A :=
  .inr (.inl ⟨hi, hne, fun u _ => u = v, fun _ _ _ _ h => h, fun us w hS hF K hK => hs us w hS hF K fun w' h1 h2 => hK v w' trivial h2 ⟨rfl, h1⟩, h⟩)
end
section
variable {P : Program} {K : Act → World → Prop} {Q : Exit → Act → World → Prop} {a : Act} {w : World} {typ : TypeId} {pos : String} {after : Array Edge} {gd : Option (Nat × Bool)}
/-- A store of a whole row into a block that is known whole. -/
theorem step_put {ty : TypeId} {x y : Operand} {g : Nat} {t : TypeId} {cs L : Array Value} (hrow : Row w g t cs) (hs : cs.size = L.size) (hn : (P.info? ty).map (·.size) = some L.size) (h1 : L.all (·.oneCell') = true)
    (hx : a.eval x = .pointer (some ⟨g, 0, none⟩)) (hy : a.eval y = .agg L) (h : ∀ w', Upd w w' g → Row w' g t L → K a w') :
    Oper.wp P { dst := none, op := .store ty x y, type := typ, pos := pos, after := after, guard := none } a w K Q := by
  refine wp_store_mid (op := { dst := none, op := .store ty x y, type := typ, pos := pos, after := after, guard := none }) ty x y rfl g 0 L hx hy (hrow.there _ (by omega)) hn h1 ?_
  have hr : Row w g t ([] ++ cs.toList ++ []).toArray := by simpa using hrow
  have h2 := Row.setCells (g := g) (t := t) L.toList w [] [] cs.toList hr (by simpa using hs)
  exact h _ (Upd.setCells g _ w 0) (by simpa using h2)
end
end Go.Proofs.YtigbmlgllgcbhaaDoor
