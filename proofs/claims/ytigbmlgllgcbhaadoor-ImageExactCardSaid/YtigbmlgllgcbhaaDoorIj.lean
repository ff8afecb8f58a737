/- Image: a growing list of modules, with its data. -/
import Derived.Test.YtigbmlgllgcbhaaDoorIh
import Derived.Test.YtigbmlgllgcbhaaDoorOwr
import Derived.Great.BuildSlice
namespace Go.Proofs.YtigbmlgllgcbhaaDoor
open Go.RowKit
set_option linter.unusedVariables false
set_option linter.unusedSimpArgs false
section
variable {P : Program} {ops : Array Oper} {rest : List Oper} {Q : Exit → Act → World → Prop} {a : Act} {w : World}
theorem wp_append_v {o : Oper} (hgd : o.guard = none) (s x : Operand) (t : TypeId) (ho : o.op = .call { callee := .builtin .append, args := #[s, x], argTypes := #[t, t] }) {e : TypeId} {zv : Value} {size bytes base n c gb : Nat} {A : Option Addr} {xs news : List Value} (ht : P.underlying t = some (.slice e))
    (hinfo : (P.info? e).map (fun i => (i.zero, i.size, i.bytes)) = some (some zv, size, bytes)) (hzs : zv.cells.size = size) (hsz : 0 < size) (hown : OwnV w base e size A n c xs) (hnew : Row w gb e news.toArray) (hnl : news.length = size) (h1 : ∀ u ∈ news, u.oneCell' = true)
    (hlen : (n + 1) * bytes ≤ 140737488355328) (hn : n + 1 ≤ 140737488355328) (hbase : base ≤ w.heap.size) (hs : a.eval s = .slice A n c) (hx : a.eval x = .slice (some ⟨gb, 0, none⟩) 1 1)
    (h : ∀ A' c'' w', OwnV w' base e size A' (n + 1) c'' (xs ++ news) → w.grownBy w' (Value.slice A n c).ownBlock → wpList P ops Q rest (a.put o.dst (.slice A' (n + 1) c'')) w') :
    wpList P ops Q (o :: rest) a w := by
  obtain ⟨A', c'', w', hr, h2, h3, h5⟩ := append_v (P := P) (ty := o.type) ht hinfo hzs hsz hown hnew hnl h1 hlen hn hbase
  refine wpList_plain hgd fun K hK => ?_
  unfold Oper.wp execOp
  simp only [ho, resolve, invoke, builtin, Sem.run_bind, Sem.run_pure, Result.andThen_ok, List.map_toArray, List.map_cons, List.map_nil, hs, hx, hr]
  exact hK _ _ (h _ _ _ h2 h3)
theorem wp_build_1 {o : Oper} (hgd : o.guard = none) {t e : TypeId} {x : Operand} (ho : o.op = .buildSlice t 1 #[(0, x)]) {L : Array Value} {zv : Value} {size bytes : Nat} (hu : P.underlying t = some (.slice e)) (hinfo : (P.info? e).map (fun i => (i.zero, i.size, i.bytes)) = some (some zv, size, bytes)) (hL : L.size = size) (hsz : 0 < size) (hsm : size ≤ 1000)
    (hx : a.eval x = .agg L) (h : wpList P ops Q rest (a.put o.dst (.slice (some ⟨w.heap.size, 0, none⟩) 1 1)) (w.alloc (.cells L e))) : wpList P ops Q (o :: rest) a w := by
  obtain ⟨i, hi, hz⟩ := Option.map_eq_some_iff.1 hinfo
  simp only [Prod.mk.injEq] at hz
  obtain ⟨hz0, hz1, hz2⟩ := hz
  refine wpList_plain hgd fun K hK => ?_
  refine wp_buildSlice (o := o) t e 1 #[(0, x)] ho L i zv hu hi hz0 (by omega) (by omega) ?_ (hK _ _ h)
  have e1 : (#[(0, x)].map fun (i, x) => (i, a.eval x)).toList = (([Value.agg L] : List Value).zipIdx 0).map fun x => (x.2, x.1) := by simp [hx]
  rw [e1, hz1, Great.fill_whole hsz [Value.agg L] _ (fun v hv => by obtain rfl := List.mem_singleton.1 hv; exact hL) (by simp)]
  simp [Value.cells]
end
theorem info_md : (Tryd.prog.info? 35).map (fun i => (i.zero, i.size, i.bytes)) = some (some (.agg ZM), 5, 64) := by kernel_rfl
theorem mdV_ones (m : Md) (D : Option Addr) (dc : Nat) : ∀ u ∈ mdV m D dc, u.oneCell' = true := by simp [mdV, Value.oneCell']
abbrev Mq := Md × Option Addr × Nat
def mqs (qs : List Mq) : List Value := qs.flatMap fun q => mdV q.1 q.2.1 q.2.2
theorem mqs_len : ∀ qs : List Mq, (mqs qs).length = 5 * qs.length
  | [] => rfl
  | q :: r => by
    have := mqs_len r
    simp only [mqs, List.flatMap_cons, List.length_append, List.length_cons] at this ⊢
    rw [this]
    simp [mdV]
    omega
theorem mqs_get : ∀ (qs : List Mq) (r i : Nat) (h : r < qs.length), i < 5 → (mqs qs)[5 * r + i]? = (mdV qs[r].1 qs[r].2.1 qs[r].2.2)[i]?
  | q :: s, 0, i, h, hi => by
    simp only [mqs, List.flatMap_cons, List.getElem_cons_zero]
    rw [List.getElem?_append_left (by simp [mdV]; omega)]
    simp
  | q :: s, r + 1, i, h, hi => by
    have := mqs_get s r i (by simpa using h) hi
    simp only [mqs, List.flatMap_cons, List.getElem_cons_succ] at this ⊢
    rw [List.getElem?_append_right (by simp [mdV]; omega), ← this]
    congr 1
    simp [mdV]
    omega
/-- The data of these modules, each in memory of the call's own. -/
def QD (w : World) (base : Nat) (qs : List Mq) : Prop := ∀ q ∈ qs, OwnB w base 5 q.2.1 q.1.data.length q.2.2 q.1.data
theorem QD.keeps {ts : List TypeId} {w w' : World} {base : Nat} {qs : List Mq} (h : QD w base qs) (k : Keeps ts w w') (ht : 5 ∉ ts) : QD w' base qs := fun q hq => (h q hq).keeps k ht
theorem QD.snoc {w : World} {base : Nat} {qs : List Mq} (h : QD w base qs) {m : Md} {D : Option Addr} {dc : Nat} (hd : OwnB w base 5 D m.data.length dc m.data) : QD w base (qs ++ [(m, D, dc)]) := fun q hq => by
  rcases List.mem_append.1 hq with h1 | h1
  · exact h q h1
  · obtain rfl := List.mem_singleton.1 h1
    exact hd
/-- A list of modules of the call's own. -/
structure OwnMs (w : World) (base : Nat) (A : Option Addr) (n c : Nat) (qs : List Mq) (ms : List Md) : Prop where
  eq : qs.map (·.1) = ms
  ln : n = ms.length
  ro : OwnV w base 35 5 A n c (mqs qs)
  qd : QD w base qs
theorem OwnMs.nil (w : World) (base : Nat) : OwnMs w base none 0 0 [] [] := ⟨rfl, rfl, OwnV.nil _ _ _ _, fun q hq => by simp at hq⟩
theorem OwnMs.below {w w' : World} {base n c : Nat} {A : Option Addr} {qs : List Mq} {ms : List Md} (h : OwnMs w base A n c qs ms) (hb : Below w.heap.size w w') : OwnMs w' base A n c qs ms :=
  ⟨h.eq, h.ln, h.ro.below hb, h.qd.keeps (ts := []) (Keeps.below hb) (by simp)⟩
theorem OwnMs.keeps {ts : List TypeId} {w w' : World} {base n c : Nat} {A : Option Addr} {qs : List Mq} {ms : List Md} (h : OwnMs w base A n c qs ms) (k : Keeps ts w w') (h5 : 5 ∉ ts) (h35 : 35 ∉ ts) : OwnMs w' base A n c qs ms :=
  ⟨h.eq, h.ln, h.ro.keeps k h35, h.qd.keeps k h5⟩
theorem OwnMs.upd {w w' : World} {base n c g : Nat} {A : Option Addr} {qs : List Mq} {ms : List Md} (h : OwnMs w base A n c qs ms) (u : Upd w w' g) {cs : Array Value} (hr : Row w g 35 cs) (hne : ∀ k, (Value.slice A n c).ownBlock = some k → k < g) : OwnMs w' base A n c qs ms := by
  refine ⟨h.eq, h.ln, ?_, h.qd.keeps (ts := [35]) (Keeps.upd u hr (by simp)) (by decide)⟩
  obtain ⟨h1, h2⟩ := h.ro
  refine ⟨h1, ?_⟩
  rcases h2 with h2 | ⟨g2, cap, cur, e1, hb, hg, r⟩
  · exact .inl h2
  · have h3 := hne g2 (by rw [e1]; rfl)
    exact .inr ⟨g2, cap, cur, e1, hb, (u.block g2 (by omega)).trans hg, r⟩
theorem OwnMs.lt {w : World} {base n c g : Nat} {A : Option Addr} {qs : List Mq} {ms : List Md} (h : OwnMs w base A n c qs ms) (hg : w.heap.size = g) : ∀ k, (Value.slice A n c).ownBlock = some k → k < g := fun k hk => by rw [← hg]; exact (h.ro.ge k hk).2
theorem below_none {w w' : World} (h : w.grownBy w' none) : Below w.heap.size w w' := (Below.refl _ _).grown h (Nat.le_refl _) (fun k hk => by cases hk)
theorem OwnMs.app {w w' : World} {base n c c2 : Nat} {A A2 : Option Addr} {qs : List Mq} {ms : List Md} (h : OwnMs w base A n c qs ms) {m : Md} {D : Option Addr} {dc : Nat} (hd : OwnB w base 5 D m.data.length dc m.data) (h2 : OwnV w' base 35 5 A2 (n + 1) c2 (mqs qs ++ mdV m D dc)) (h3 : w.grownBy w' (Value.slice A n c).ownBlock) : OwnMs w' base A2 (n + 1) c2 (qs ++ [(m, D, dc)]) (ms ++ [m]) := by
  have k : Keeps [35] w w' := Keeps.grown h3 h.ro.typed
  refine ⟨by simp [h.eq], by simp [h.ln], ?_, (h.qd.keeps k (by decide)).snoc (hd.keeps k (by decide))⟩
  have e : mqs (qs ++ [(m, D, dc)]) = mqs qs ++ mdV m D dc := by simp [mqs]
  rw [e]
  exact h2
theorem OwnMs.isMs {w : World} {base n c : Nat} {A : Option Addr} {qs : List Mq} {ms : List Md} (h : OwnMs w base A n c qs ms) : IsMs w A n ms := by
  obtain ⟨rfl, hn, ho, hd⟩ := h
  refine ⟨hn, fun h0 => ?_⟩
  obtain ⟨g, rfl, -, -⟩ := ho.form h0
  refine ⟨g, 0, rfl, fun r hr => ?_⟩
  have hr2 : r < qs.length := by simpa using hr
  have hm := hd _ (List.getElem_mem hr2)
  refine ⟨qs[r].2.1, qs[r].2.2, fun i v hv => ?_, ?_, ?_⟩
  · have hi : i < 5 := by
      have := (List.getElem?_eq_some_iff.1 hv).1
      simpa [mdV] using this
    have h1 := World.ownsRow.cellAt (show w.ownsRow base 35 5 (.slice (some ⟨g, 0, none⟩) n c) n (mqs qs) from ho) (5 * r + i) (by rw [List.length_map] at hn; omega)
    rw [mqs_get qs r i hr2 hi] at h1
    rw [show 0 + r * 5 + i = 5 * r + i by omega, h1]
    simpa using hv
  · simpa using hm.capM
  · simpa using hm.isB
theorem OwnMs.cap {w : World} {base n c : Nat} {A : Option Addr} {qs : List Mq} {ms : List Md} (h : OwnMs w base A n c qs ms) : n ≤ c := h.ro.cap
/-- What Build and the like want of a list of modules. -/
structure MsV (w : World) (A : Option Addr) (n c : Nat) (ms : List Md) : Prop where
  im : IsMs w A n ms
  cp : n ≤ c
theorem OwnMs.v {w : World} {base n c : Nat} {A : Option Addr} {qs : List Mq} {ms : List Md} (h : OwnMs w base A n c qs ms) : MsV w A n c ms := ⟨h.isMs, h.cap⟩
/-- An empty slice literal. -/
theorem OwnB.lit0 {w : World} {g base : Nat} (h : Row w g 5 #[]) (hb : base ≤ g) : OwnB w base 5 (some ⟨g, 0, none⟩) 0 0 [] := ⟨rfl, .inr ⟨g, 0, #[], rfl, hb, h, by omega, by decide, rfl, rfl⟩⟩
/-- A module whose data is not there yet: its cells in a block. -/
theorem Row.data {w : World} {g : Nat} {m : Md} {D : Option Addr} {dc : Nat} (h : Row w g 35 (mdV m D dc).toArray) {D2 : Option Addr} {dc2 : Nat} (m2 : Md) (hm : m2.name = m.name ∧ m2.kind = m.kind ∧ m2.width = m.width ∧ m2.entry = m.entry) : Row (w.setCell ⟨g, 4, none⟩ (.slice D2 m2.data.length dc2)) g 35 (mdV m2 D2 dc2).toArray := by
  have := h.set 4 (.slice D2 m2.data.length dc2)
  obtain ⟨h1, h2, h3, h4⟩ := hm
  have e : (mdV m2 D2 dc2).toArray = (mdV m D dc).toArray.setIfInBounds 4 (.slice D2 m2.data.length dc2) := by simp [mdV, h1, h2, h3, h4]
  rw [e]
  exact this
end Go.Proofs.YtigbmlgllgcbhaaDoor
