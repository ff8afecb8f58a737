/- urpc: a connection in memory. -/
import Derived.Test.YthjkhambmgepdaaVa
namespace Go.Proofs.Ythjkhambmgepdaa
open Go.RowKit
set_option linter.unusedVariables false
/-- The connection: its ends, the bytes under way to each end, the six lists of numbers (Services, Asked, Over of either side). -/
structure CnS where
  (E : Nat → UE) (Z : Nat → List (List UInt8)) (I : Nat → List Int)
def CnS.putE (S : CnS) (s : Nat) (e : UE) : CnS := { S with E := upd S.E s e }
def CnS.appZ (S : CnS) (s : Nat) (m : List UInt8) : CnS := { S with Z := upd S.Z s (S.Z s ++ [m]) }
def CnS.tailZ (S : CnS) (s : Nat) (zs : List (List UInt8)) : CnS := { S with Z := upd S.Z s zs }
def CnS.appI (S : CnS) (i : Nat) (x : Int) : CnS := { S with I := upd S.I i (S.I i ++ [x]) }
def CnS.setI (S : CnS) (i k : Nat) (x : Int) : CnS := { S with I := upd S.I i ((S.I i).set k x) }
/-- Where its slices lie. -/
structure CnP where
  (A B : Nat → Option Addr) (c d : Nat → Nat) (zA iA : Nat → Option Addr) (zc ic : Nat → Nat)
def CCell (S : CnS) (p : CnP) : List Value :=
  (UEV (S.E 0) (p.A 0) (p.c 0) (p.B 0) (p.d 0)).toList ++ ((UEV (S.E 1) (p.A 1) (p.c 1) (p.B 1) (p.d 1)).toList ++ [.slice (p.zA 0) (S.Z 0).length (p.zc 0), .slice (p.zA 1) (S.Z 1).length (p.zc 1), .slice (p.iA 0) (S.I 0).length (p.ic 0), .slice (p.iA 1) (S.I 1).length (p.ic 1), .slice (p.iA 2) (S.I 2).length (p.ic 2), .slice (p.iA 3) (S.I 3).length (p.ic 3), .slice (p.iA 4) (S.I 4).length (p.ic 4), .slice (p.iA 5) (S.I 5).length (p.ic 5)])
/-- No slice is longer than its room. -/
def CapL (vs : List Value) : Prop := ∀ v ∈ vs, ∃ A n c, v = .slice A n c ∧ n ≤ c
structure CM (base g : Nat) (col : Nat → Nat) (w : World) (S : CnS) (p : CnP) : Prop where
  row : Part col 1 w (fun w => Row w g 116 (CCell S p).toArray)
  cg : col g = 1
  cb : ∀ x, x < base → col x = 0
  cn : ∀ x, w.heap.size ≤ x → col x = 0
  held : ∀ s, s < 2 → Part col 0 w (fun w => HeldU w (S.E s) (p.A s) (p.c s) (p.B s) (p.d s))
  way : ∀ s, s < 2 → ∃ vs, OwnK col (2 + s) w 44 1 (p.zA s) (S.Z s).length (p.zc s) vs ∧ MsgK col w vs (S.Z s) ∧ CapL vs
  ints : ∀ i, i < 6 → OwnK col (4 + i) w 3 1 (p.iA i) (S.I i).length (p.ic i) ((S.I i).map iv)
section
variable {base g k b j : Nat} {col : Nat → Nat} {w wA w2 w3 w' : World} {S : CnS} {p : CnP} {s i : Nat}
theorem CM.below (h : CM base g col w S p) (hb : Below w.heap.size w w') : CM base g col w' S p :=
  ⟨h.row.below hb, h.cg, h.cb, fun x hx => h.cn x (Nat.le_trans hb.size hx), fun s hs => (h.held s hs).below hb, fun s hs => by
    obtain ⟨vs, h1, h2, h3⟩ := h.way s hs
    exact ⟨vs, h1.below hb, h2.below hb, h3⟩, fun i hi => (h.ints i hi).below hb⟩
theorem CM.drew (h : CM base g col w S p) : CM base g col w.drew S p := h.below ((Below.refl _ _).drew)
theorem CM.lt (h : CM base g col w S p) : g < w.heap.size := h.row.now.lt
theorem CM.bg (h : CM base g col w S p) : base ≤ g := by
  rcases Nat.lt_or_ge g base with h1 | h1
  · have := h.cb g h1
    rw [h.cg] at this
    cases this
  · exact h1
theorem CM.white {wB : World} (h : CM base g col w S p) (hw : White col w w') (hB : Below base wB w) : Below base wB w' := hw.below_base h.cb (Nat.le_of_lt (Nat.lt_of_le_of_lt h.bg h.lt)) hB
/-- The connection's own row changes, and with it what end s is. -/
theorem CM.putE (h : CM base g col w S p) (hs : s < 2) {e' : UE} {A B : Option Addr} {c d : Nat} (u : Upd w w' g) (hH : Part col 0 w (fun w => HeldU w e' A c B d))
    (hr : Row w' g 116 (CCell { S with E := upd S.E s e' } { p with A := upd p.A s A, c := upd p.c s c, B := upd p.B s B, d := upd p.d s d }).toArray) :
    CM base g col w' { S with E := upd S.E s e' } { p with A := upd p.A s A, c := upd p.c s c, B := upd p.B s B, d := upd p.d s d } := by
  have o := Only.upd u h.cg
  refine ⟨Part.row hr h.cg, h.cg, h.cb, fun x hx => h.cn x (by rw [← u.size]; exact hx), fun t ht => ?_, fun t ht => ?_, fun i hi => (h.ints i hi).upd u h.cg (by omega)⟩
  · by_cases e : t = s
    · subst e
      simp only [upd_self]
      exact hH.only o (by omega)
    · simp only [upd_other e]
      exact (h.held t ht).only o (by omega)
  · obtain ⟨vs, h1, h2, h3⟩ := h.way t ht
    exact ⟨vs, h1.upd u h.cg (by omega), h2.only o (by omega), h3⟩
theorem Grow.cm {row : Option Nat} (h : Grow g k b col wA w2 w3 row) (hM : CM base g col wA S p) : (∀ x, x < base → paint col b k x = 0) ∧ (∀ x, w3.heap.size ≤ x → paint col b k x = 0) := by
  refine ⟨fun x hx => ?_, fun x hx => ?_⟩
  · rw [paint_other]
    · exact hM.cb x hx
    · intro e
      subst e
      rcases h.bk with h1 | h1
      · have := hM.bg; have := hM.lt; omega
      · exact h.k0 (h1.symm.trans (hM.cb x hx))
  · have hs := h.u.size
    have h1 := h.bl
    have h2 := h.gr.size
    rw [paint_other (by omega)]
    exact hM.cn x (by omega)
theorem CapL.snoc {vs : List Value} {A : Option Addr} {n c : Nat} (h : CapL vs) (hc : n ≤ c) : CapL (vs ++ [.slice A n c]) := by
  intro v hv
  rcases List.mem_append.1 hv with hv | hv
  · exact h v hv
  · rw [List.mem_singleton.1 hv]
    exact ⟨A, n, c, rfl, hc⟩
/-- A message is put on its way to end s. -/
theorem CM.appZ {row : Option Nat} (hM : CM base g col wA S p) (hs : s < 2) (h : Grow g (2 + s) b col wA w2 w3 row) {m : List UInt8} {vs : List Value} {A Am : Option Addr} {c cm : Nat} (hm : MsgK col wA vs (S.Z s)) (hv : CapL vs) (hcm : m.length ≤ cm) (hq : OwnQ w2 44 1 A ((S.Z s).length + 1) c (vs ++ [.slice Am m.length cm])) (hb : blk A = some b)
    (hI : Part col 0 wA (fun w => IsB w Am m.length m)) (hr : Row w3 g 116 (CCell { S with Z := upd S.Z s (S.Z s ++ [m]) } { p with zA := upd p.zA s A, zc := upd p.zc s c }).toArray) :
    CM base g (paint col b (2 + s)) w3 { S with Z := upd S.Z s (S.Z s ++ [m]) } { p with zA := upd p.zA s A, zc := upd p.zc s c } := by
  obtain ⟨h1, h2⟩ := h.cm hM
  refine ⟨Part.row hr h.cg', h.cg', h1, h2, fun t ht => h.part (hM.held t ht) (by omega) (by omega), fun t ht => ?_, fun i hi => h.own (hM.ints i hi) (by omega) (by omega)⟩
  by_cases e : t = s
  · subst e
    simp only [upd_self]
    refine ⟨vs ++ [.slice Am m.length cm], ?_, h.msg (hm.snoc hI), hv.snoc hcm⟩
    have := h.new hq hb
    simpa using this
  · simp only [upd_other e]
    obtain ⟨vs', h3, h4, h5⟩ := hM.way t ht
    exact ⟨vs', h.own h3 (by omega) (by omega), h.msg h4, h5⟩
/-- One of the lists of numbers grows. -/
theorem CM.appI {row : Option Nat} (hM : CM base g col wA S p) (hi : i < 6) (h : Grow g (4 + i) b col wA w2 w3 row) {x : Int} {A : Option Addr} {c : Nat} (hq : OwnQ w2 3 1 A ((S.I i).length + 1) c ((S.I i).map iv ++ [iv x])) (hb : blk A = some b)
    (hr : Row w3 g 116 (CCell { S with I := upd S.I i (S.I i ++ [x]) } { p with iA := upd p.iA i A, ic := upd p.ic i c }).toArray) :
    CM base g (paint col b (4 + i)) w3 { S with I := upd S.I i (S.I i ++ [x]) } { p with iA := upd p.iA i A, ic := upd p.ic i c } := by
  obtain ⟨h1, h2⟩ := h.cm hM
  refine ⟨Part.row hr h.cg', h.cg', h1, h2, fun t ht => h.part (hM.held t ht) (by omega) (by omega), fun t ht => ?_, fun t ht => ?_⟩
  · obtain ⟨vs', h3, h4, h5⟩ := hM.way t ht
    exact ⟨vs', h.own h3 (by omega) (by omega), h.msg h4, h5⟩
  · by_cases e : t = i
    · subst e
      simp only [upd_self]
      have := h.new hq hb
      simpa using this
    · simp only [upd_other e]
      exact h.own (hM.ints t ht) (by omega) (by omega)
theorem MsgK.tail {vs : List Value} {m : List UInt8} {q : List (List UInt8)} (h : MsgK col w vs (m :: q)) : MsgK col w (vs.drop 1) q := by
  refine ⟨by rw [List.length_drop, h.1]; simp, fun i hi => ?_⟩
  obtain ⟨A, c, e, hp⟩ := h.2 (i + 1) (by simp; omega)
  rw [List.getElem_cons_succ] at e hp
  exact ⟨A, c, by rw [List.getElem?_drop, Nat.add_comm]; exact e, hp⟩
/-- The first message is taken off. -/
theorem CM.tailZ (hM : CM base g col w S p) (hs : s < 2) {m : List UInt8} {zs : List (List UInt8)} {vs : List Value} (he : S.Z s = m :: zs) {A : Option Addr} {c : Nat} (u : Upd w w' g) (hA : blk A = blk (p.zA s)) (hm : MsgK col w vs (m :: zs)) (hv : CapL vs) (hq : OwnQ w 44 1 A zs.length c (vs.drop 1))
    (hr : Row w' g 116 (CCell { S with Z := upd S.Z s zs } { p with zA := upd p.zA s A, zc := upd p.zc s c }).toArray) :
    CM base g col w' { S with Z := upd S.Z s zs } { p with zA := upd p.zA s A, zc := upd p.zc s c } := by
  have o := Only.upd u hM.cg
  refine ⟨Part.row hr hM.cg, hM.cg, hM.cb, fun x hx => hM.cn x (by rw [← u.size]; exact hx), fun t ht => (hM.held t ht).only o (by omega), fun t ht => ?_, fun t ht => (hM.ints t ht).upd u hM.cg (by omega)⟩
  by_cases e : t = s
  · subst e
    simp only [upd_self]
    obtain ⟨vs', h1, -⟩ := hM.way t ht
    have hc : ∀ b, blk A = some b → col b = 2 + t := fun b hb => h1.blk b (by rw [← hA]; exact hb)
    exact ⟨vs.drop 1, ⟨(Part.own hq hc).only o (by omega), hc⟩, hm.tail.only o (by omega), fun v h => hv v (List.mem_of_mem_drop h)⟩
  · simp only [upd_other e]
    obtain ⟨vs', h1, h2, h3⟩ := hM.way t ht
    exact ⟨vs', h1.upd u hM.cg (by omega), h2.only o (by omega), h3⟩
/-- One number of a list changes. -/
theorem OwnQ.set {e : TypeId} {gi o n c : Nat} {xs : List Value} (h : OwnQ w e 1 (some ⟨gi, o, none⟩) n c xs) {k : Nat} (hk : k < n) (x : Value) : OwnQ (w.setCell ⟨gi, o + k, none⟩ x) e 1 (some ⟨gi, o, none⟩) n c (xs.set k x) := by
  refine ⟨by rw [List.length_set]; exact h.1, ?_⟩
  rcases h.2 with ⟨h1, _⟩ | ⟨g', o', cur, h1, hr, h2, h3, h4, h5⟩
  · cases h1
  · injection h1 with h1
    injection h1 with h1 h6 h7
    subst h1 h6
    refine .inr ⟨gi, o, _, rfl, hr.set (o + k) x, h2, h3, by simpa using h4, ?_⟩
    rw [← h5]
    simp only [Array.toList_setIfInBounds]
    rw [List.drop_set, if_neg (by omega), List.take_set, Nat.add_sub_cancel_left]
theorem CM.setI (hM : CM base g col w S p) (hi : i < 6) {gi o k : Nat} {x : Int} (hA : p.iA i = some ⟨gi, o, none⟩) (hk : k < (S.I i).length) : CM base g col (w.setCell ⟨gi, o + k, none⟩ (.int .i64 x)) { S with I := upd S.I i ((S.I i).set k x) } p := by
  have hown := hM.ints i hi
  have hcg : col gi = 4 + i := hown.blk gi (by rw [hA]; rfl)
  have u := Upd.setCell w gi (o + k) (.int .i64 x)
  have ok : Only col (4 + i) w (w.setCell ⟨gi, o + k, none⟩ (.int .i64 x)) := Only.upd u hcg
  have hq := hown.part.now
  rw [hA] at hq
  have hq2 := hq.set hk (.int .i64 x)
  have hlen : ∀ t, ((upd S.I i ((S.I i).set k x)) t).length = (S.I t).length := fun t => by
    by_cases e : t = i
    · subst e; rw [upd_self, List.length_set]
    · rw [upd_other e]
  have hC : CCell { S with I := upd S.I i ((S.I i).set k x) } p = CCell S p := by
    unfold CCell
    simp only [hlen]
  refine ⟨?_, hM.cg, hM.cb, fun x hx => hM.cn x (by rw [← u.size]; exact hx), fun t ht => (hM.held t ht).only ok (by omega), fun t ht => ?_, fun t ht => ?_⟩
  · rw [hC]; exact hM.row.only ok (by omega)
  · obtain ⟨vs', h1, h2, h3⟩ := hM.way t ht
    exact ⟨vs', ⟨h1.part.only ok (by omega), h1.blk⟩, h2.only ok (by omega), h3⟩
  · by_cases e : t = i
    · subst e
      simp only [upd_self]
      refine ⟨?_, hown.blk⟩
      rw [hA, List.length_set]
      have e2 : ((S.I t).set k x).map iv = ((S.I t).map iv).set k (.int .i64 x) := by rw [List.map_set]; rfl
      rw [e2]
      exact Part.own hq2 (fun b hb => hown.blk b (by rw [hA]; exact hb))
    · simp only [upd_other e]
      have h1 := hM.ints t ht
      exact ⟨h1.part.only ok (by omega), h1.blk⟩
end
/-- The cells of the connection's own row. -/
theorem CM.cells {base g : Nat} {col : Nat → Nat} {w : World} {S : CnS} {p : CnP} (h : CM base g col w S p) :
    (w.cell? ⟨g, 12, none⟩ = some (.slice (p.zA 0) (S.Z 0).length (p.zc 0)) ∧ w.cell? ⟨g, 13, none⟩ = some (.slice (p.zA 1) (S.Z 1).length (p.zc 1)) ∧ w.cell? ⟨g, 14, none⟩ = some (.slice (p.iA 0) (S.I 0).length (p.ic 0)) ∧ w.cell? ⟨g, 15, none⟩ = some (.slice (p.iA 1) (S.I 1).length (p.ic 1)) ∧
     w.cell? ⟨g, 16, none⟩ = some (.slice (p.iA 2) (S.I 2).length (p.ic 2)) ∧ w.cell? ⟨g, 17, none⟩ = some (.slice (p.iA 3) (S.I 3).length (p.ic 3)) ∧ w.cell? ⟨g, 18, none⟩ = some (.slice (p.iA 4) (S.I 4).length (p.ic 4)) ∧ w.cell? ⟨g, 19, none⟩ = some (.slice (p.iA 5) (S.I 5).length (p.ic 5))) ∧ (∀ i, w.frozen? ⟨g, i, none⟩ = false) ∧
    w.rangeAt g 0 (UEV (S.E 0) (p.A 0) (p.c 0) (p.B 0) (p.d 0)).toList ∧ w.rangeAt g 6 (UEV (S.E 1) (p.A 1) (p.c 1) (p.B 1) (p.d 1)).toList := by
  have hr := h.row.now
  refine ⟨⟨hr.cell 12, hr.cell 13, hr.cell 14, hr.cell 15, hr.cell 16, hr.cell 17, hr.cell 18, hr.cell 19⟩, hr.frozen, fun j v hv => ?_, fun j v hv => ?_⟩
  · rw [Nat.zero_add, hr.cell]
    have hj : j < 6 := by have := (List.getElem?_eq_some_iff.1 hv).1; simpa [UEV] using this
    rw [List.getElem?_toArray]
    unfold CCell
    rw [List.getElem?_append_left (by simpa [UEV] using hj)]
    exact hv
  · rw [hr.cell]
    have hj : j < 6 := by have := (List.getElem?_eq_some_iff.1 hv).1; simpa [UEV] using this
    rw [List.getElem?_toArray]
    unfold CCell
    rw [List.getElem?_append_right (by simp [UEV]), List.getElem?_append_left (by simp [UEV]; omega)]
    have : 6 + j - (UEV (S.E 0) (p.A 0) (p.c 0) (p.B 0) (p.d 0)).toList.length = j := by simp [UEV]
    rw [this]
    exact hv
/-- What a step leaves behind. -/
def CStep (base g : Nat) (col : Nat → Nat) (w : World) (S' : CnS) (en : Ending) (W' : World) : Prop := en = .returned (.bool true) ∧ ∃ col' p', CM base g col' W' S' p' ∧ White col w W' ∧ ∀ x, x < w.heap.size → col x = 0 → col' x = 0
theorem CStep.same {base g : Nat} {col : Nat → Nat} {w w' : World} {S : CnS} {p : CnP} (h : CM base g col w S p) (hb : Below w.heap.size w w') : CStep base g col w S (.returned (.bool true)) w' := ⟨rfl, col, p, h.below hb, White.below hb, fun _ _ h => h⟩
end Go.Proofs.Ythjkhambmgepdaa
