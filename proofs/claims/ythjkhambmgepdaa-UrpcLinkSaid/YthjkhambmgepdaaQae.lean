/- Texts Cal Owr Ue, without what this claim does not use. -/
import Derived.Laws.AppendOwn
import Derived.Laws.OwnMore
import Derived.Maps.AppendAt
import Derived.OwnWalk
import Derived.Lib.SliceRun
import Derived.Test.YthjkhambmgepdaaQad
namespace Go.Proofs.Ythjkhambmgepdaa
section
open Go.RowKit
set_option linter.unusedVariables false
theorem below_on {a w w' : World} (h : Below a.heap.size a w) (hb : Below w.heap.size w w') : Below a.heap.size a w' := h.trans (hb.mono h.size)
def Shp (B : Nat) (w w' : World) : Prop := ∀ b t cs, B ≤ b → Row w b t cs → ∃ cs', Row w' b t cs' ∧ cs'.size = cs.size
theorem Shp.refl (B : Nat) (w : World) : Shp B w w := fun b t cs _ h => ⟨cs, h, rfl⟩
theorem Shp.alloc (B : Nat) (w : World) (o : Obj) : Shp B w (w.alloc o) := fun b t cs _ h => ⟨cs, h.alloc o, rfl⟩
theorem Shp.below {B : Nat} {w w' : World} (hb : Below w.heap.size w w') : Shp B w w' := fun b t cs _ h => ⟨cs, h.below hb h.lt, rfl⟩
theorem Shp.upd {B g : Nat} {w w' : World} {t : TypeId} {cs L : Array Value} (u : Upd w w' g) (h : Row w g t cs) (k : Row w' g t L) (hs : cs.size = L.size) : Shp B w w' := fun b t' cs' _ h' => by
  by_cases hb : b = g
  · subst hb
    have e := h.symm.trans h'
    injection e with e
    injection e with e1 e2 e3
    subst e1 e2
    exact ⟨L, k, hs.symm⟩
  · exact ⟨cs', h'.upd u hb, rfl⟩
def PtrN (B : Nat) (t : TypeId) (n : Nat) (u : Value) (w : World) : Prop := ∃ b cs, u = .pointer (some ⟨b, 0, none⟩) ∧ B ≤ b ∧ Row w b t cs ∧ cs.size = n
theorem PtrN.mono {B : Nat} {t : TypeId} {n : Nat} (u : Value) (w w' : World) (h : Shp B w w') (k : PtrN B t n u w) : PtrN B t n u w' := by
  obtain ⟨b, cs, e, hB, hr, hn⟩ := k
  obtain ⟨cs', hr', hn'⟩ := h b t cs hB hr
  exact ⟨b, cs', e, hB, hr', by omega⟩
def PtrL (B : Nat) (t : TypeId) (L : Array Value) (u : Value) (w : World) : Prop := ∃ b, u = .pointer (some ⟨b, 0, none⟩) ∧ B ≤ b ∧ Row w b t L
theorem PtrL.below {B : Nat} {t : TypeId} {L : Array Value} {u : Value} {w w' : World} (h : PtrL B t L u w) (hb : Below w.heap.size w w') : PtrL B t L u w' := by
  obtain ⟨b, e, hB, hr⟩ := h
  exact ⟨b, e, hB, hr.below hb hr.lt⟩
theorem PtrL.upd {B g : Nat} {t t' : TypeId} {L cs : Array Value} {u : Value} {w w' : World} (h : PtrL B t L u w) (hu : Upd w w' g) (hr : Row w g t' cs) (hne : t ≠ t') : PtrL B t L u w' := by
  obtain ⟨b, e, hB, hrb⟩ := h
  refine ⟨b, e, hB, hrb.upd hu fun hb => hne ?_⟩
  subst hb
  have e := hrb.symm.trans hr
  injection e with e
  injection e
def CalS (w : World) (ic : Nat) (C : Value → World → Prop) (c1 i1 : Nat) (t1 : TypeId) (L1 : Array Value) (c2 i2 : Nat) (t2 : TypeId) (L2 : Array Value) (c : Nat) (us : Nat → Value) (w' : World) : Prop :=
  Below w.heap.size w w' ∧ (c = 1 → C (us ic) w') ∧ (c1 ≤ c → PtrL w.heap.size t1 L1 (us i1) w') ∧ (c2 ≤ c → PtrL w.heap.size t2 L2 (us i2) w')
section
variable {w w9 w' : World} {ic c1 i1 c2 i2 c g : Nat} {C : Value → World → Prop} {t1 t2 : TypeId} {L1 L2 cs : Array Value} {us : Nat → Value}
theorem CalS.loc {ops : Array Oper} {st : List Nat} (hic : ic ∈ st.take 1) (h1 : ∀ c, c1 ≤ c → mayAt ops st c i1 = false) (h2 : ∀ c, c2 ≤ c → mayAt ops st c i2 = false) :
    ∀ c us us' w', (∀ k, mayAt ops st c k = false ∨ k ∈ st.take c → us k = us' k) → CalS w ic C c1 i1 t1 L1 c2 i2 t2 L2 c us w' → CalS w ic C c1 i1 t1 L1 c2 i2 t2 L2 c us' w' := by
  intro c us us' w' hk ⟨a, b, d, e⟩
  refine ⟨a, fun hc => ?_, fun hc => ?_, fun hc => ?_⟩
  · subst hc
    rw [← hk ic (.inr hic)]
    exact b rfl
  · rw [← hk i1 (.inl (h1 c hc))]
    exact d hc
  · rw [← hk i2 (.inl (h2 c hc))]
    exact e hc
theorem CalS.start (h1 : 0 < c1) (h2 : 0 < c2) : CalS w ic C c1 i1 t1 L1 c2 i2 t2 L2 0 us w.drew := ⟨below_drewN (Below.refl _ _) 1, fun h => by omega, fun h => by omega, fun h => by omega⟩
theorem CalS.below (h : CalS w ic C c1 i1 t1 L1 c2 i2 t2 L2 c us w9) (hb : Below w9.heap.size w9 w') (hC : ∀ u w w', Below w.heap.size w w' → C u w → C u w') : CalS w ic C c1 i1 t1 L1 c2 i2 t2 L2 c us w' :=
  ⟨below_on h.1 hb, fun hc => hC _ _ _ hb (h.2.1 hc), fun hc => (h.2.2.1 hc).below hb, fun hc => (h.2.2.2 hc).below hb⟩
theorem CalS.alloc (h : CalS w ic C c1 i1 t1 L1 c2 i2 t2 L2 c us w9) (hC : ∀ u w w', Below w.heap.size w w' → C u w → C u w') (o : Obj) : CalS w ic C c1 i1 t1 L1 c2 i2 t2 L2 c us (w9.alloc o) :=
  h.below ((Below.refl _ _).alloc (Nat.le_refl _) _) hC
theorem CalS.link {V : Nat → Value} (h : CalS w ic C c1 i1 t1 L1 c2 i2 t2 L2 c us w9) (hb : Below w9.heap.size w9 w') (h1 : c + 1 < c1) (h2 : c + 1 < c2) (hC : c + 1 = 1 → C (V ic) w') : CalS w ic C c1 i1 t1 L1 c2 i2 t2 L2 (c + 1) V w' :=
  ⟨below_on h.1 hb, hC, fun hc => by omega, fun hc => by omega⟩
theorem CalS.st1 (h : CalS w ic C c1 i1 t1 L1 c2 i2 t2 L2 c us w9) (u : Upd w9 w' g) (r : Row w' g t1 L1) (hu : us i1 = .pointer (some ⟨g, 0, none⟩)) (hB : w.heap.size ≤ g) (hc : c + 1 = c1) (h12 : c1 < c2) (hC : c + 1 = 1 → C (us ic) w') :
    CalS w ic C c1 i1 t1 L1 c2 i2 t2 L2 (c + 1) us w' := ⟨Upd.below h.1 u hB, hC, fun _ => ⟨g, hu, hB, r⟩, fun hx => by omega⟩
theorem CalS.st2 (h : CalS w ic C c1 i1 t1 L1 c2 i2 t2 L2 c us w9) (u : Upd w9 w' g) (r0 : Row w9 g t2 cs) (r : Row w' g t2 L2) (hu : us i2 = .pointer (some ⟨g, 0, none⟩)) (hB : w.heap.size ≤ g) (hc : c + 1 = c2) (h12 : c1 < c2) (h0 : 0 < c) (hne : t1 ≠ t2) :
    CalS w ic C c1 i1 t1 L1 c2 i2 t2 L2 (c + 1) us w' := ⟨Upd.below h.1 u hB, fun hx => by omega, fun _ => (h.2.2.1 (by omega)).upd u r0 hne, fun _ => ⟨g, hu, hB, r⟩⟩
end
def NoC (_ : Value) (_ : World) : Prop := True
theorem NoC.mono (u : Value) (w w' : World) (_ : Below w.heap.size w w') (_ : NoC u w) : NoC u w' := trivial
theorem OwnB.capM {w : World} {base : Nat} {e : TypeId} {A : Option Addr} {n c : Nat} {bs : List UInt8} (h : OwnB w base e A n c bs) : n ≤ c := by
  rcases h.2 with ⟨h1, h2⟩ | ⟨g, cap, cur, h1, _, _, h2, _⟩
  · omega
  · injection h1 with h1 h3 h4
    omega
section
variable {P : Program} {ops : Array Oper} {st : List Nat} {S : Nat → (Nat → Value) → World → Prop} {G : World → World → Prop} {Q : Exit → Act → World → Prop}
variable {o : Oper} {rest : List Oper} {i c : Nat} {F : List (Nat × (Value → World → Prop))} {A : (Nat → Value) → Act}
theorem late_chain_fix (v : Value) (hne : o.dst ≠ none) (hs : ∀ us w, S c us w → (∀ p ∈ F, waits o p.1 = true → p.2 (us p.1) w) → ∀ K : Act → World → Prop, (∀ w', S (c + 1) (fun k => if k = i then v else us k) w' → G w w' → K ((A us).put o.dst v) w') →
      if Region.wanted o (yielded ops (A us).tmps) = true then Oper.wp P o (A us) w K (fun _ _ _ => False) else K ((A us).put o.dst undef) w)
    (h : WalkL P ops st S G Q rest (i + 1) (c + 1) ((i, fun u _ => u = v) :: F) (fun us => (A us).put o.dst (us i))) (hi : i ∈ st := by decide) : WalkL P ops st S G Q (o :: rest) i c F A :=
  .inr (.inl ⟨hi, hne, fun u _ => u = v, fun _ _ _ _ h => h, fun us w hS hF K hK => hs us w hS hF K fun w' h1 h2 => hK v w' trivial h2 ⟨rfl, h1⟩, h⟩)
end
section
variable {P : Program} {K : Act → World → Prop} {Q : Exit → Act → World → Prop} {a : Act} {w : World} {typ : TypeId} {pos : String} {after : Array Edge} {gd : Option (Nat × Bool)}
theorem step_put {ty : TypeId} {x y : Operand} {g : Nat} {t : TypeId} {cs L : Array Value} (hrow : Row w g t cs) (hs : cs.size = L.size) (hn : (P.info? ty).map (·.size) = some L.size) (h1 : L.all (·.oneCell') = true)
    (hx : a.eval x = .pointer (some ⟨g, 0, none⟩)) (hy : a.eval y = .agg L) (h : ∀ w', Upd w w' g → Row w' g t L → K a w') :
    Oper.wp P { dst := none, op := .store ty x y, type := typ, pos := pos, after := after, guard := none } a w K Q := by
  refine wp_store_mid (op := { dst := none, op := .store ty x y, type := typ, pos := pos, after := after, guard := none }) ty x y rfl g 0 L hx hy (hrow.there _ (by omega)) hn h1 ?_
  have hr : Row w g t ([] ++ cs.toList ++ []).toArray := by simpa using hrow
  have h2 := Row.setCells (g := g) (t := t) L.toList w [] [] cs.toList hr (by simpa using hs)
  exact h _ (Upd.setCells g _ w 0) (by simpa using h2)
end
end
section
open Go.RowKit
set_option linter.unusedVariables false
def OwnV (w : World) (base : Nat) (e : TypeId) (size : Nat) (A : Option Addr) (n c : Nat) (xs : List Value) : Prop := w.ownsRow base e size (.slice A n c) n xs
def Keeps (ts : List TypeId) (w w' : World) : Prop := w.heap.size ≤ w'.heap.size ∧ ∀ (g : Nat) (t : TypeId) (cs : Array Value) (fr : Nat × Nat), w.heap[g]? = some (Obj.cells cs t fr) → t ∉ ts → w'.heap[g]? = some (Obj.cells cs t fr)
theorem Keeps.refl (ts : List TypeId) (w : World) : Keeps ts w w := ⟨Nat.le_refl _, fun _ _ _ _ h _ => h⟩
theorem Keeps.trans {ts : List TypeId} {a b c : World} (h : Keeps ts a b) (k : Keeps ts b c) : Keeps ts a c := ⟨Nat.le_trans h.1 k.1, fun g t cs fr hg ht => k.2 g t cs fr (h.2 g t cs fr hg ht) ht⟩
theorem Keeps.below {ts : List TypeId} {w w' : World} (hb : Below w.heap.size w w') : Keeps ts w w' := ⟨hb.size, fun g t cs fr hg _ => (hb.block g (Array.getElem?_eq_some_iff.1 hg).1).trans hg⟩
theorem Keeps.upd {ts : List TypeId} {w w' : World} {g : Nat} {t : TypeId} {cs : Array Value} (u : Upd w w' g) (h : Row w g t cs) (ht : t ∈ ts) : Keeps ts w w' := ⟨Nat.le_of_eq u.size.symm, fun g' t' cs' fr hg hn => by
  by_cases e : g' = g
  · subst e
    have e2 := h.symm.trans hg
    injection e2 with e2
    injection e2 with e3 e4 e5
    subst e4
    exact absurd ht hn
  · exact (u.block g' e).trans hg⟩
theorem Keeps.grown {ts : List TypeId} {w w' : World} {row : Option Nat} (h : w.grownBy w' row) (hr : ∀ k, row = some k → ∃ t cs fr, w.heap[k]? = some (Obj.cells cs t fr) ∧ t ∈ ts) : Keeps ts w w' := ⟨h.size, fun g t cs fr hg hn => by
  refine (h.block g (Array.getElem?_eq_some_iff.1 hg).1 fun e => ?_).trans hg
  obtain ⟨t', cs', fr', h', ht'⟩ := hr g e.symm
  have e2 := h'.symm.trans hg
  injection e2 with e2
  injection e2 with e3 e4 e5
  subst e4
  exact hn ht'⟩
theorem Keeps.row {ts : List TypeId} {w w' : World} {g : Nat} {t : TypeId} {cs : Array Value} (k : Keeps ts w w') (h : Row w g t cs) (ht : t ∉ ts) : Row w' g t cs := k.2 g t cs _ h ht
theorem OwnV.keeps {ts : List TypeId} {w w' : World} {base size : Nat} {e : TypeId} {A : Option Addr} {n c : Nat} {xs : List Value} (h : OwnV w base e size A n c xs) (k : Keeps ts w w') (he : e ∉ ts) : OwnV w' base e size A n c xs := by
  obtain ⟨h1, h2⟩ := h
  refine ⟨h1, ?_⟩
  rcases h2 with h2 | ⟨g, cap, cur, e1, hb, hg, r⟩
  · exact .inl h2
  · exact .inr ⟨g, cap, cur, e1, hb, k.2 g e cur _ hg he, r⟩
theorem OwnB.keeps {ts : List TypeId} {w w' : World} {base : Nat} {e : TypeId} {A : Option Addr} {n c : Nat} {bs : List UInt8} (h : OwnB w base e A n c bs) (k : Keeps ts w w') (he : e ∉ ts) : OwnB w' base e A n c bs := OwnV.keeps (size := 1) h k he
theorem OwnB.lower {w : World} {base b2 : Nat} {e : TypeId} {A : Option Addr} {n c : Nat} {bs : List UInt8} (h : OwnB w base e A n c bs) (hb : b2 ≤ base) : OwnB w b2 e A n c bs := by
  obtain ⟨h1, h2⟩ := h
  refine ⟨h1, ?_⟩
  rcases h2 with h2 | ⟨g, cap, cur, e1, hg, r⟩
  · exact .inl h2
  · exact .inr ⟨g, cap, cur, e1, Nat.le_trans hb hg, r⟩
theorem OwnV.nil (w : World) (base : Nat) (e : TypeId) (size : Nat) : OwnV w base e size none 0 0 [] := World.ownsRow_nil w base e size
theorem OwnV.ge {w : World} {base size : Nat} {e : TypeId} {A : Option Addr} {n c : Nat} {xs : List Value} (h : OwnV w base e size A n c xs) : ∀ k, (Value.slice A n c).ownBlock = some k → base ≤ k ∧ k < w.heap.size := fun k hk => World.ownsRow.lt h k hk
theorem OwnV.cap {w : World} {base size : Nat} {e : TypeId} {A : Option Addr} {n c : Nat} {xs : List Value} (h : OwnV w base e size A n c xs) : n ≤ c := by
  rcases h.2 with ⟨h1, h2⟩ | ⟨g, cap, cur, h1, _, _, h2, _⟩
  · omega
  · injection h1 with h1 h3 h4
    omega
theorem OwnV.typed {w : World} {base size : Nat} {e : TypeId} {A : Option Addr} {n c : Nat} {xs : List Value} (h : OwnV w base e size A n c xs) : ∀ k, (Value.slice A n c).ownBlock = some k → ∃ t cs fr, w.heap[k]? = some (Obj.cells cs t fr) ∧ t ∈ [e] := fun k hk => by
  rcases h.2 with ⟨h1, h2⟩ | ⟨g, cap, cur, h1, _, hg, _⟩
  · rw [h1] at hk
    cases hk
  · rw [h1] at hk
    injection hk with hk
    subst hk
    exact ⟨e, cur, _, hg, List.mem_singleton.2 rfl⟩
theorem OwnV.form {w : World} {base size : Nat} {e : TypeId} {A : Option Addr} {n c : Nat} {xs : List Value} (h : OwnV w base e size A n c xs) (hn : 0 < n) : ∃ g, A = some ⟨g, 0, none⟩ ∧ base ≤ g ∧ g < w.heap.size := by
  rcases h.2 with ⟨_, h0⟩ | ⟨g, cap, cur, h', hb, hg, _⟩
  · omega
  · injection h' with h1 h2 h3
    subst h1
    exact ⟨g, rfl, hb, (Array.getElem?_eq_some_iff.1 hg).1⟩
theorem OwnV.below {w w' : World} {base size : Nat} {e : TypeId} {A : Option Addr} {n c : Nat} {xs : List Value} (h : OwnV w base e size A n c xs) (hb : Below w.heap.size w w') : OwnV w' base e size A n c xs := h.keeps (ts := []) (Keeps.below hb) (by simp)
section
variable {P : Program} {K : Act → World → Prop} {Q : Exit → Act → World → Prop} {a : Act} {w : World} {dst : Option Tmp} {typ : TypeId} {pos : String} {after : Array Edge}
theorem append_v {t ty e : TypeId} {zv : Value} {size bytes base n c gb : Nat} {A : Option Addr} {xs news : List Value} (ht : P.underlying t = some (.slice e)) (hinfo : (P.info? e).map (fun i => (i.zero, i.size, i.bytes)) = some (some zv, size, bytes))
    (hzs : zv.cells.size = size) (hsz : 0 < size) (hown : OwnV w base e size A n c xs) (hnew : Row w gb e news.toArray) (hnl : news.length = size) (h1 : ∀ u ∈ news, u.oneCell' = true)
    (hlen : (n + 1) * bytes ≤ 140737488355328) (hn : n + 1 ≤ 140737488355328) (hbase : base ≤ w.heap.size) :
    ∃ A' c'' w', (Builtin.append_ #[t, t] ty #[.slice A n c, .slice (some ⟨gb, 0, none⟩) 1 1]).run P w = .ok (.slice A' (n + 1) c'') w' ∧ OwnV w' base e size A' (n + 1) c'' (xs ++ news) ∧ w.grownBy w' (Value.slice A n c).ownBlock ∧
      ((Value.slice A' (n + 1) c'').ownBlock = (Value.slice A n c).ownBlock ∨ (Value.slice A' (n + 1) c'').ownBlock = some w.heap.size) := by
  obtain ⟨i, hi, hz⟩ := Option.map_eq_some_iff.1 hinfo
  simp only [Prod.mk.injEq] at hz
  obtain ⟨hz0, hz1, hz2⟩ := hz
  obtain ⟨v', w', hr, h2, h3, h4, h5⟩ := run_append_own_at (P := P) w base t ty e i zv size bytes ht hi hz0 hz1 hz2 hzs hsz (.slice A n c) n xs hown ⟨gb, 0, none⟩ 1 1 news (by omega)
    (fun j u hu => by
      have : (⟨gb, 0, none⟩ : Addr).add j = ⟨gb, j, none⟩ := by rw [Addr.add_mid, Nat.zero_add]
      rw [this, hnew.cell j]
      simpa using hu) h1 (by simp only [maxLen]; omega) hlen hbase
  rcases h2.2 with ⟨rfl, hn0⟩ | ⟨g, cap, cur, rfl, rest'⟩
  · omega
  · exact ⟨_, _, _, hr, h2, h3, h5⟩
theorem step_append_v {s x : Operand} {t e : TypeId} {zv : Value} {size bytes base n c gb : Nat} {A : Option Addr} {xs news : List Value} (ht : P.underlying t = some (.slice e)) (hinfo : (P.info? e).map (fun i => (i.zero, i.size, i.bytes)) = some (some zv, size, bytes))
    (hzs : zv.cells.size = size) (hsz : 0 < size) (hown : OwnV w base e size A n c xs) (hnew : Row w gb e news.toArray) (hnl : news.length = size) (h1 : ∀ u ∈ news, u.oneCell' = true)
    (hlen : (n + 1) * bytes ≤ 140737488355328) (hn : n + 1 ≤ 140737488355328) (hbase : base ≤ w.heap.size) (hs : a.eval s = .slice A n c) (hx : a.eval x = .slice (some ⟨gb, 0, none⟩) 1 1)
    (h : ∀ A' c'' w', OwnV w' base e size A' (n + 1) c'' (xs ++ news) → w.grownBy w' (Value.slice A n c).ownBlock →
      ((Value.slice A' (n + 1) c'').ownBlock = (Value.slice A n c).ownBlock ∨ (Value.slice A' (n + 1) c'').ownBlock = some w.heap.size) → K (a.put dst (.slice A' (n + 1) c'')) w') :
    Oper.wp P { dst := dst, op := .call { callee := .builtin .append, args := #[s, x], argTypes := #[t, t] }, type := typ, pos := pos, after := after, guard := none } a w K Q := by
  obtain ⟨A', c'', w', hr, h2, h3, h5⟩ := append_v (P := P) (ty := typ) ht hinfo hzs hsz hown hnew hnl h1 hlen hn hbase
  unfold Oper.wp execOp
  simp only [resolve, invoke, builtin, Sem.run_bind, Sem.run_pure, Result.andThen_ok, List.map_toArray, List.map_cons, List.map_nil, hs, hx, hr]
  exact h _ _ _ h2 h3 h5
end
end
section
open Go.RowKit
set_option linter.unusedVariables false
set_option linter.unusedSimpArgs false
theorem info_n : (Try.prog.info? 3).map (fun i => (i.zero, i.size, i.bytes)) = some (some (.int .i64 0), 1, 8) := by kernel_rfl
def upB (last : Int) : Int → List Int → Bool
  | _, [] => true
  | p, x :: r => (decide (1 ≤ x) && (decide (x ≤ last) && decide (p < x))) && upB last x r
def prevI (l : List Int) : Nat → Int
  | 0 => 0
  | j + 1 => (l[j]?).getD 0
def numB (last cr : Int) (l : List Int) : Bool := upB last 0 l && decide ((l.length : Int) ≤ cr)
theorem upB_at {last : Int} {l : List Int} {j : Nat} (h : j < l.length) : upB last (prevI l j) (l.drop j) = ((decide (1 ≤ l[j]) && (decide (l[j] ≤ last) && decide (prevI l j < l[j]))) && upB last (prevI l (j + 1)) (l.drop (j + 1))) := by
  have hp : prevI l (j + 1) = l[j] := by show (l[j]?).getD 0 = _; rw [List.getElem?_eq_getElem h]; rfl
  rw [hp, List.drop_eq_getElem_cons h]
  rfl
theorem IsN.idx {w : World} {b o n : Nat} {l : List Int} (h : IsN w (some ⟨b, o, none⟩) n l) {j : Nat} (hj : j < n) : ∃ x, l[j]? = some x ∧ w.cell? ⟨b, o + j, none⟩ = some (.int .i64 x) := by
  obtain ⟨b', o', e, hc⟩ := h.2 (by omega)
  injection e with e
  injection e with e1 e2
  subst e1 e2
  have hl := h.1
  exact ⟨l[j]'(by omega), List.getElem?_eq_getElem (by omega), hc j (by omega)⟩
theorem IsN.form {w : World} {A : Option Addr} {n : Nat} {l : List Int} (h : IsN w A n l) (h0 : 0 < n) : ∃ b o, A = some ⟨b, o, none⟩ := by
  obtain ⟨b, o, e, -⟩ := h.2 h0
  exact ⟨b, o, e⟩
theorem OwnN.v {w : World} {base : Nat} {e : TypeId} {A : Option Addr} {n c : Nat} {l : List Int} (h : OwnN w base e A n c l) : OwnV w base e 1 A n c (l.map iv) := h
theorem OwnN.keeps {ts : List TypeId} {w w' : World} {base : Nat} {e : TypeId} {A : Option Addr} {n c : Nat} {l : List Int} (h : OwnN w base e A n c l) (k : Keeps ts w w') (he : e ∉ ts) : OwnN w' base e A n c l := OwnV.keeps (size := 1) h k he
def VnP (last cr : Int) (l : List Int) (W : World) (en : Ending) (W' : World) : Prop := en = .returned (.bool (numB last cr l)) ∧ W' = W
theorem vn_mk {last cr : Int} {l : List Int} {v : Bool} {W : World} (h : numB last cr l = v) : VnP last cr l W (.returned (.bool v)) W := ⟨by rw [h], rfl⟩
set_option maxRecDepth 100000 in
set_option maxHeartbeats 8000000 in
theorem valid_num (last cr : Int) (A : Option Addr) (n c : Nat) (l : List Int) (W : World) (hA : IsN W A n l) (hn : n ≤ 1000000) : Calls Try.prog 120 #[.slice A n c, .int .i64 last, .int .i64 cr] W (VnP last cr l W) := by
  have hl := Lib.hid hA.1
  have HA := Lib.hid hA
  clear hA
  go_enter Try.func120, Try.ntmps120
  go_upto_region 2 with (fail)
  go_loopw [11] (fun i wr => ∃ j : Nat, j ≤ n ∧ i = .int .i64 j ∧ wr = W ∧ upB last 0 l = upB last (prevI l j) (l.drop j)) (fun i _ => n - (intOf i).toNat)
  case atStart => exact ⟨0, by omega, rfl, rfl, rfl⟩
  case round =>
    obtain ⟨j, hj, rfl, rfl, hU⟩ := hrel
    rcases Nat.lt_or_ge j n with hjn | hjn
    · have dj : decide (j < n) = true := decide_eq_true hjn
      have dji : decide ((j : Int) < (n : Int)) = true := decide_eq_true (by omega)
      have hji : (j : Int) < n := by omega
      obtain ⟨b, o, rfl⟩ := HA.out.form (by omega)
      obtain ⟨x, hx, hcx⟩ := HA.out.idx hjn
      have hjl : j < l.length := by have := hl.out; omega
      have hxe : l[j] = x := by rw [List.getElem?_eq_getElem hjl] at hx; injection hx
      have hat := upB_at (last := last) hjl
      rw [hxe] at hat
      rw [hat] at hU
      have HU := Lib.hid hU
      have HX := Lib.hid hx
      have hpj : prevI l (j + 1) = x := by show (l[j]?).getD 0 = _; rw [hx]; rfl
      have HP := Lib.hid hpj
      clear hU hat hx hxe hpj
      go_upto_region 4 with (fail)
      rcases Int.lt_or_le x 1 with a1 | a1
      · have d1 : decide (x < 1) = true := dt a1
        have HV := Lib.hid (show numB last cr l = false by unfold numB; rw [HU.out, df (by omega : ¬ 1 ≤ x)]; rfl)
        clear HU a1
        go_wp2
        go_ret
        exact vn_mk HV.out
      have d1 : decide (x < 1) = false := df (by omega)
      rcases Int.lt_or_le last x with a2 | a2
      · have d2 : decide (last < x) = true := dt a2
        have HV := Lib.hid (show numB last cr l = false by unfold numB; rw [HU.out, df (by omega : ¬ x ≤ last)]; simp)
        clear HU a2
        go_wp2
        go_ret
        exact vn_mk HV.out
      have d2 : decide (last < x) = false := df (by omega)
      rcases j with _ | i
      · have HY := Lib.hid (show upB last 0 l = upB last (prevI l 1) (l.drop 1) by rw [HU.out, dt a1, dt a2, dt (show prevI l 0 < x by show (0 : Int) < x; omega)]; rfl)
        clear HU
        go_wp2
        exact ⟨⟨1, by omega, by go_num, trivial, HY.out⟩, by simp [intOf]; omega⟩
      · have dj0 : decide ((0 : Int) < ((i + 1 : Nat) : Int)) = true := dt (by omega)
        have djn0 : decide (0 < i + 1) = true := dt (by omega)
        have djc : decide ((0 : Int) < (i : Int) + 1) = true := dt (by omega)
        have wi : IntKind.i64.wrap (((i + 1 : Nat) : Int) - 1) = (i : Int) := by rw [IntKind.wrap_i64]; omega
        have wi2 : IntKind.i64.wrap ((i : Int) + 1 - 1) = (i : Int) := by rw [IntKind.wrap_i64]; omega
        have hii : (i : Int) < n := by omega
        have hi0 : (0 : Int) ≤ (i : Int) := by omega
        obtain ⟨y, hy, hcy⟩ := HA.out.idx (show i < n by omega)
        have hpy : prevI l (i + 1) = y := by show (l[i]?).getD 0 = _; rw [hy]; rfl
        rw [hpy] at HU
        rcases Int.lt_or_le y x with a3 | a3
        · have d3 : decide (x ≤ y) = false := df (by omega)
          have HY := Lib.hid (show upB last 0 l = upB last (prevI l (i + 1 + 1)) (l.drop (i + 1 + 1)) by rw [HU.out, dt a1, dt a2, dt a3]; simp)
          clear HU hy hpy
          go_wp2
          exact ⟨⟨i + 1 + 1, by omega, by go_num, trivial, HY.out⟩, by simp [intOf]; omega⟩
        · have d3 : decide (x ≤ y) = true := dt a3
          have HV := Lib.hid (show numB last cr l = false by unfold numB; rw [HU.out, df (by omega : ¬ y < x)]; simp)
          clear HU hy hpy
          go_wp2
          go_ret
          exact vn_mk HV.out
    · obtain rfl : j = n := by omega
      have dj : decide (j < j) = false := decide_eq_false (by omega)
      have dji : decide ((j : Int) < (j : Int)) = false := decide_eq_false (by omega)
      have HV := Lib.hid (show numB last cr l = decide ((j : Int) ≤ cr) by unfold numB; rw [hU, List.drop_of_length_le (by have := hl.out; omega)]; unfold upB; rw [hl.out]; simp)
      clear hU
      go_wp2
      go_ret
      exact vn_mk HV.out
def IxP (l : List Int) (x : Int) (W : World) (en : Ending) (W' : World) : Prop := (x ∈ l → ∃ k, k < l.length ∧ l.idxOf x = k ∧ en = .returned (.int .i64 k)) ∧ (x ∉ l → en = .returned (.int .i64 (-1))) ∧ W' = W
theorem idx_first {x : Int} : ∀ {l : List Int} {j : Nat}, l[j]? = some x → (∀ i, i < j → l[i]? ≠ some x) → x ∈ l ∧ l.idxOf x = j
  | [], j, h, _ => by simp at h
  | y :: t, 0, h, _ => by
    simp at h
    subst h
    exact ⟨List.mem_cons_self, by simp [List.idxOf_cons]⟩
  | y :: t, j + 1, h, hb => by
    have hy : y ≠ x := fun e => hb 0 (by omega) (by simp [e])
    obtain ⟨h1, h2⟩ := idx_first (l := t) (j := j) (by simpa using h) (fun i hi => by have := hb (i + 1) (by omega); simpa using this)
    refine ⟨List.mem_cons_of_mem _ h1, ?_⟩
    rw [List.idxOf_cons]
    have : (y == x) = false := by rw [beq_eq_false_iff_ne]; exact hy
    rw [this]
    simp [h2]
set_option maxRecDepth 100000 in
set_option maxHeartbeats 8000000 in
theorem index_n (A : Option Addr) (n c : Nat) (l : List Int) (x : Int) (W : World) (hA : IsN W A n l) (hn : n ≤ 1000000) : Calls Try.prog 125 #[.slice A n c, .int .i64 x] W (IxP l x W) := by
  have hl := Lib.hid hA.1
  have HA := Lib.hid hA
  clear hA
  go_enter Try.func125, Try.ntmps125
  go_upto_region 2 with (fail)
  go_loopw [8] (fun i wr => ∃ j : Nat, j ≤ n ∧ i = .int .i64 j ∧ wr = W ∧ ∀ i, i < j → l[i]? ≠ some x) (fun i _ => n - (intOf i).toNat)
  case atStart => exact ⟨0, by omega, rfl, rfl, fun i hi => by omega⟩
  case round =>
    obtain ⟨j, hj, rfl, rfl, hU⟩ := hrel
    rcases Nat.lt_or_ge j n with hjn | hjn
    · have dj : decide (j < n) = true := decide_eq_true hjn
      have dji : decide ((j : Int) < (n : Int)) = true := decide_eq_true (by omega)
      have hji : (j : Int) < n := by omega
      obtain ⟨b, o, rfl⟩ := HA.out.form (by omega)
      obtain ⟨y, hy, hcy⟩ := HA.out.idx hjn
      have HY := Lib.hid hy
      clear hy
      by_cases hxy : x = y
      · have dx : (x == y) = true := et hxy
        have HX := Lib.hid hxy
        clear hxy
        go_wp2
        go_ret
        have h1 := HY.out
        rw [← HX.out] at h1
        obtain ⟨h2, h3⟩ := idx_first h1 hU
        exact ⟨fun _ => ⟨j, by have := hl.out; omega, h3, rfl⟩, fun h => absurd h2 h, rfl⟩
      · have dx : (x == y) = false := ef hxy
        go_wp2
        refine ⟨⟨j + 1, by omega, by go_num, trivial, fun i hi => ?_⟩, by simp [intOf]; omega⟩
        rcases Nat.lt_or_ge i j with h | h
        · exact hU i h
        · obtain rfl : i = j := by omega
          rw [HY.out]
          exact fun h => hxy (by injection h with h; exact h.symm)
    · obtain rfl : j = n := by omega
      have dj : decide (j < j) = false := decide_eq_false (by omega)
      have dji : decide ((j : Int) < (j : Int)) = false := decide_eq_false (by omega)
      have hno : x ∉ l := fun h => by
        obtain ⟨i, hi, hx⟩ := List.mem_iff_getElem.1 h
        exact hU i (by have := hl.out; omega) (by rw [List.getElem?_eq_getElem hi, hx])
      go_wp2
      go_ret
      exact ⟨fun h => absurd h hno, fun _ => rfl, rfl⟩
theorem OwnN.empty {w : World} {base g : Nat} {e : TypeId} (h : Row w g e #[]) (hb : base ≤ g) : OwnN w base e (some ⟨g, 0, none⟩) 0 0 [] :=
  ⟨rfl, .inr ⟨g, 0, #[], rfl, hb, h, by omega, by decide, rfl, rfl⟩⟩
theorem eql_nil_n (w : World) (A : Option Addr) (n c : Nat) : (binOp .eql 52 (.slice A n c) (.slice none 0 0)).run Try.prog w = .ok (.bool A.isNone) w := by
  simp only [binOp]
  simp [run_equal_slice_nil w 52 3 A n c Try.underlying52]
def ClnP (n : Nat) (l : List Int) (W : World) (en : Ending) (W' : World) : Prop := ∃ A' c', en = .returned (.slice A' n c') ∧ OwnN W' W.heap.size 3 A' n c' l ∧ Below W.heap.size W W'
set_option maxRecDepth 100000 in
set_option maxHeartbeats 8000000 in
theorem clonen_some (ad : Addr) (n c : Nat) (l : List Int) (W : World) (hA : IsN W (some ad) n l) (hn : n ≤ 1000000) : Calls Try.prog 128 #[.slice (some ad) n c] W (ClnP n l W) := by
  have hB1 := (Below.refl W.heap.size W).alloc (Nat.le_refl _) (.cells #[] 3)
  have r1 := Row.born W 3 #[]
  have hA1 := hA.below hB1
  have ho := OwnN.empty r1 (Nat.le_refl _)
  have hs : W.heap.size ≤ (W.alloc (.cells #[] 3)).heap.size := hB1.size
  have hnil := fun w => eql_nil_n w (some ad) n c
  go_enter Try.func128, Try.ntmps128
  go_wp2_with (at_builtin; (refine wp_append_n (P := Try.prog) rfl _ _ 52 rfl Try.underlying52 info_n ho hA1 (by omega) hs rfl rfl ?_); intro A1 n1 c1 w2 hn1 ho1 hb1 hg1 hat1; have hq1 := hn1.out; rw [Nat.zero_add] at hq1; subst hq1; simp only [List.nil_append] at ho1)
  go_ret
  exact ⟨A1, c1, rfl, ho1, hB1.trans hb1⟩
set_option maxRecDepth 100000 in
set_option maxHeartbeats 8000000 in
theorem clonen_none (n c : Nat) (l : List Int) (W : World) (hA : IsN W none n l) : Calls Try.prog 128 #[.slice none n c] W (ClnP n l W) := by
  obtain rfl : n = 0 := by
    rcases Nat.eq_zero_or_pos n with h | h
    · exact h
    · obtain ⟨b, o, e, -⟩ := hA.2 h
      cases e
  obtain rfl : l = [] := List.eq_nil_of_length_eq_zero hA.1.symm
  have hnil := fun w => eql_nil_n w none 0 c
  go_enter Try.func128, Try.ntmps128
  go_wp2
  go_ret
  exact ⟨none, 0, rfl, OwnN.nil _ _ _, Below.refl _ _⟩
theorem clone_n (A : Option Addr) (n c : Nat) (l : List Int) (W : World) (hA : IsN W A n l) (hn : n ≤ 1000000) : Calls Try.prog 128 #[.slice A n c] W (ClnP n l W) := by
  cases A with
  | none => exact clonen_none n c l W hA
  | some ad => exact clonen_some ad n c l W hA hn
section
variable {P : Program} {K : Act → World → Prop} {Q : Exit → Act → World → Prop} {a : Act} {w : World} {dst : Option Tmp} {typ : TypeId} {pos : String} {after : Array Edge} {gd : Option (Nat × Bool)}
theorem step_append_in {s x : Operand} {t e : TypeId} {base g n c m c' : Nat} {B : Option Addr} {bs cs : List Int} (ht : P.underlying t = some (.slice e)) (hinfo : (P.info? e).map (fun i => (i.zero, i.size, i.bytes)) = some (some (.int .i64 0), 1, 8)) (hown : OwnN w base e (some ⟨g, 0, none⟩) n c bs) (hB : IsN w B m cs) (hroom : n + m ≤ c)
    (hs : a.eval s = .slice (some ⟨g, 0, none⟩) n c) (hx : a.eval x = .slice B m c') (h : ∀ w', OwnN w' base e (some ⟨g, 0, none⟩) (n + m) c (bs ++ cs) → w.grownBy w' (some g) → K (a.put dst (.slice (some ⟨g, 0, none⟩) (n + m) c)) w') :
    Oper.wp P { dst := dst, op := .call { callee := .builtin .append, args := #[s, x], argTypes := #[t, t] }, type := typ, pos := pos, after := after, guard := gd } a w K Q := by
  obtain ⟨i, hi, hz⟩ := Option.map_eq_some_iff.1 hinfo
  simp only [Prod.mk.injEq] at hz
  obtain ⟨hz0, hz1, hz2⟩ := hz
  have key : ∃ w', (Builtin.append_ #[t, t] typ #[.slice (some ⟨g, 0, none⟩) n c, .slice B m c']).run P w = .ok (.slice (some ⟨g, 0, none⟩) (n + m) c) w' ∧ OwnN w' base e (some ⟨g, 0, none⟩) (n + m) c (bs ++ cs) ∧ w.grownBy w' (some g) := by
    rcases Nat.eq_zero_or_pos m with h0 | h0
    · subst h0
      obtain rfl : cs = [] := List.eq_nil_of_length_eq_zero hB.1.symm
      refine ⟨w, ?_, by simpa using hown, World.grownBy.refl w _⟩
      have hnc : n ≤ c := by omega
      cases B <;> simp [Builtin.append_, run_underlying ht, sizeOf, typeInfo, hi, Builtin.lenOf, Builtin.firstCells, hnc, storeCells, loadCells, loadCellsFrom]
    · obtain ⟨ad, rfl, hsrc⟩ := hB.src h0
      obtain ⟨w', hr, h2, h3⟩ := run_append_fits (P := P) w base t typ e i 1 ht hi hz1 g n c (bs.map iv) hown ad m c' (cs.map iv) (by simp [← hB.1]) hsrc (iv_one cs) hroom
      exact ⟨w', hr, by unfold OwnN; rw [List.map_append]; exact h2, h3⟩
  obtain ⟨w', hr, h2, h3⟩ := key
  unfold Oper.wp execOp
  simp only [resolve, invoke, builtin, Sem.run_bind, Sem.run_pure, Result.andThen_ok, List.map_toArray, List.map_cons, List.map_nil, hs, hx, hr]
  exact h _ h2 h3
end
def DelP (base g n c : Nat) (l : List Int) (k : Nat) (W : World) (en : Ending) (W' : World) : Prop := en = .returned (.slice (some ⟨g, 0, none⟩) n c) ∧ OwnN W' base 3 (some ⟨g, 0, none⟩) n c (l.eraseIdx k) ∧ W.grownBy W' (some g)
theorem OwnN.take {w : World} {base : Nat} {g n c : Nat} {l : List Int} (h : OwnN w base 3 (some ⟨g, 0, none⟩) n c l) {i : Nat} (hi : i ≤ n) : OwnN w base 3 (some ⟨g, 0, none⟩) i c (l.take i) := by
  have hl := h.len
  rcases h.2 with ⟨h', h0⟩ | ⟨g', cap, cur, h', hb, hg, hnc, hcm, hcs, ht⟩
  · cases h'
  · injection h' with h1 h2 h3
    injection h1 with h1
    injection h1 with h1
    subst h1 h3
    refine ⟨by simp; omega, .inr ⟨g, c, cur, rfl, hb, hg, by omega, hcm, hcs, ?_⟩⟩
    have e : (cur.toList.take (n * 1)).take i = (l.map iv).take i := by rw [ht]
    rw [List.take_take] at e
    rw [← List.map_take]  at e
    rw [← e]
    congr 1
    omega
theorem grown_upd {w w' : World} {g : Nat} (u : Upd w w' g) : w.grownBy w' (some g) := ⟨u.os, u.tape, u.output, Nat.le_of_eq u.size.symm, fun k hk hne => u.block k (fun e => hne (by rw [e]))⟩
theorem OwnN.row {w : World} {base : Nat} {g n c : Nat} {l : List Int} (h : OwnN w base 3 (some ⟨g, 0, none⟩) n c l) (h0 : 0 < c) : ∃ cur, Row w g 3 cur ∧ cur.size = c := by
  rcases h.2 with ⟨h', _⟩ | ⟨g', cap, cur, h', hb, hg, hnc, hcm, hcs, ht⟩
  · cases h'
  · injection h' with h1 h2 h3
    injection h1 with h1
    injection h1 with h1
    subst h1 h3
    exact ⟨cur, hg, by omega⟩
theorem OwnN.behind {w : World} {base : Nat} {g n c i : Nat} {l : List Int} {v : Value} (h : OwnN w base 3 (some ⟨g, 0, none⟩) n c l) (hi : n ≤ i) : OwnN (w.setCell ⟨g, i, none⟩ v) base 3 (some ⟨g, 0, none⟩) n c l := by
  rcases h.2 with ⟨h', _⟩ | ⟨g', cap, cur, h', hb, hg, hnc, hcm, hcs, ht⟩
  · cases h'
  · injection h' with h1 h2 h3
    injection h1 with h1
    injection h1 with h1
    subst h1 h3
    refine ⟨h.1, .inr ⟨g, c, _, rfl, hb, Row.set hg i v, hnc, hcm, by simpa using hcs, ?_⟩⟩
    rw [← ht, Array.toList_setIfInBounds, List.take_set_of_le (by omega)]
theorem OwnN.cellN {w : World} {base : Nat} {g n c : Nat} {l : List Int} (h : OwnN w base 3 (some ⟨g, 0, none⟩) n c l) {i : Nat} (hi : i < n) : w.cell? ⟨g, i, none⟩ = (l.map iv)[i]? := World.ownsRow.cellAt h i (by omega)
set_option maxRecDepth 100000 in
set_option maxHeartbeats 8000000 in
theorem delete_n (base g n c : Nat) (l : List Int) (k : Nat) (W : World) (hA : OwnN W base 3 (some ⟨g, 0, none⟩) (n + 1) c l) (hk : k ≤ n) (hn : n ≤ 1000000) : Calls Try.prog 126 #[.slice (some ⟨g, 0, none⟩) (n + 1) c, .int .i64 (k : Int), .int .i64 ((k : Int) + 1)] W (DelP base g n c l k W) := by
  have hcap : n + 1 ≤ c := OwnV.cap (size := 1) hA
  go_enter Try.func126, Try.ntmps126
  have dk : ((k : Int) == (k : Int) + 1) = false := ef (by omega)
  have h1 : (0 : Int) ≤ (k : Int) := by omega
  have h2 : (k : Int) ≤ (k : Int) + 1 := by omega
  have h3 : (k : Int) + 1 ≤ (n : Int) + 1 := by omega
  have h4 : (n : Int) + 1 ≤ (c : Int) := by omega
  have h5 : (0 : Int) ≤ (k : Int) + 1 := by omega
  have h6 : k ≤ c := by omega
  have h7 : k + 1 ≤ n + 1 := by omega
  have h8 : k + 1 ≤ c := by omega
  go_upto_region 5 with (fail)
  clear dk
  obtain ⟨m, rfl⟩ : ∃ m, n = k + m := ⟨n - k, by omega⟩
  have hlen := Lib.hid hA.len
  have hsub : k + m + 1 - (k + 1) = m := by omega
  have h9 : (k : Int) + 1 ≤ (k : Int) + (m : Int) + 1 := by omega
  have HT := Lib.hid (hA.take (i := k) (by omega))
  obtain ⟨B, c', hB, HS⟩ : ∃ B c', (if c = k + 1 then some (⟨g, 0, none⟩ : Addr) else some ⟨g, k + 1, none⟩) = B ∧ IsN W B m (l.drop (k + 1)) ∧ c' = c - (k + 1) := by
    refine ⟨_, _, rfl, ?_, rfl⟩
    have hlen := hlen.out
    refine ⟨by rw [List.length_drop]; omega, fun h0 => ⟨g, k + 1, by rw [if_neg (by omega)], fun i hi => ?_⟩⟩
    rw [hA.cellN (by rw [List.length_drop] at hi; omega)]
    rw [List.length_drop] at hi
    simp [show k + 1 + i < l.length by omega, iv]
  refine wp_region_late (n := 33) [6] (fun cc us w' => (cc < 1 → w' = W.drew) ∧ (1 ≤ cc → OwnN w' base 3 (some ⟨g, 0, none⟩) (k + m) c (l.take k ++ l.drop (k + 1)) ∧ W.grownBy w' (some g))) (fun _ _ => True) (by kernel_rfl) (by kernel_rfl) (by rfl) (fun _ _ _ _ _ h => h) ⟨fun _ => rfl, fun h => by omega⟩ ?_
  iterate 6 (refine late_pure (by simp) (fun w => trivial) (v := ?_) (fun _ => rfl) ?_ ?_; rotate_left; (focus (intro c9 us w9 hm9 hS9 hF; clear hF hm9 hS9; go_simp; (try with_reducible rfl); done)); simp only [Act.put, zA, zB, zC, Nat.reduceAdd])
  refine late_chain_fix (.slice (some ⟨g, 0, none⟩) (k + m) c) (by simp) ?_ ?_
  · intro us w9 hS9 hF K hK
    clear hF
    have hw9 := hS9.1 (by omega)
    subst hw9
    rw [if_pos (by rfl)]
    exact step_append_in (P := Try.prog) (w := W.drew) Try.underlying52 info_n HT.out HS.1 (by omega) rfl rfl (fun w' h1 h2 => hK w' ⟨fun h => by omega, fun _ => ⟨h1, ⟨h2.os, h2.tape, h2.output, h2.size, h2.block⟩⟩⟩ trivial)
  simp only [Act.put, zA, zB, zC, Nat.reduceAdd]
  refine late_pure (by simp) (fun w => trivial) (v := .slice (some ⟨g, 0, none⟩) (k + m) c) (fun _ => rfl) ?_ ?_; (focus (intro c9 us w9 hm9 hS9 hF; have e5 := hF (6, fun u _ => u = .slice (some ⟨g, 0, none⟩) (k + m) c) (by simp) (by kernel_rfl); dsimp only at e5; clear hF hm9 hS9; go_simp; (try with_reducible rfl); done))
  simp only [Act.put, zA, zB, zC, Nat.reduceAdd]
  refine late_done fun us w8 hS8 hF => ?_
  obtain ⟨ho8, hg8⟩ := hS8.2 (by omega)
  clear hF hS8 HT HS hA
  obtain ⟨cur, hr8, hsz⟩ := ho8.row (by omega)
  have hcl : ∀ ty, (Builtin.clear_ #[52] ty #[.slice (some ⟨g, k + m, none⟩) 1 (c - (k + m))]).run Try.prog w8 = .ok (.tuple #[]) (w8.setCells g (k + m) (List.replicate 1 (.int .i64 0))) := fun ty =>
    Lib.run_clear_slice w8 52 3 ty (.int .i64 0) Try.underlying52 (fun w => by rfl) rfl rfl g (k + m) 1 _ (by omega) (fun j hj => by rw [hr8.cell]; simp; omega) (fun j hj => hr8.frozen _)
  have hne : ¬ c = k + m := by omega
  have i1 : ((k + m : Nat) : Int) ≤ ((k + m : Nat) : Int) + 1 := by omega
  have i2 : (k : Int) + (m : Int) ≤ (k : Int) + (m : Int) + 1 := by omega
  have i3 : (k : Int) + (m : Int) + 1 ≤ (c : Int) := by omega
  have i4 : (0 : Int) ≤ (k : Int) + (m : Int) := by omega
  have i5 : k + m + 1 - (k + m) = 1 := by omega
  go_wp2
  go_ret
  have u9 := Upd.setCell w8 g (k + m) (.int .i64 0)
  refine ⟨rfl, ?_, hg8.trans (grown_upd u9)⟩
  rw [List.eraseIdx_eq_take_drop_succ]
  exact ho8.behind (Nat.le_refl _)
end
end Go.Proofs.Ythjkhambmgepdaa
