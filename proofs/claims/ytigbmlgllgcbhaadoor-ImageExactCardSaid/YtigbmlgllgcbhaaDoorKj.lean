/- Image: a slice of modules that came in. -/
import Derived.Test.YtigbmlgllgcbhaaDoorIk
import Derived.Test.YtigbmlgllgcbhaaDoorIsRow
import Derived.Deep.Fields
import Derived.Deep.SlicePairs
import Derived.Lib.SmallJoins
import Derived.OpenShut
namespace Go.Proofs.YtigbmlgllgcbhaaDoor
open Go.RowKit Go.Deep Go.ChangeShapes Go.WideShapes
set_option linter.unusedVariables false
set_option linter.unusedSimpArgs false
theorem cellsJ3 : Tryd.prog.cellsOf 3 = 1 := by kernel_rfl
theorem cellsJ9 : Tryd.prog.cellsOf 9 = 1 := by kernel_rfl
theorem cellsJ23 : Tryd.prog.cellsOf 23 = 1 := by kernel_rfl
theorem cellsJ35 : Tryd.prog.cellsOf 35 = 5 := by kernel_rfl
theorem wf_u8j {z : Int} (h : (Lit.int .u8 z).wf = true) : 0 ≤ z ∧ z < 256 := by have := bounds_u8 h; omega
section
variable {H : Type} {enc : TypeId × Value → H} {W : World} {base : Nat} {spare : Nat → Bool} {held : Bool}
theorem bytes_sl {n : Nat} {l : List Value} {y : DataW H × List MemPlace} (h : DataW.trod enc Tryd.prog W base spare held n 23 l = some y) : ∃ A len c bs, l = [.slice A len c] ∧ IsB W A len bs ∧ len ≤ c := by
  rcases open_ints Tryd.underlying23 Tryd.underlying5 (by kernel_rfl) h with ⟨rfl, _⟩ | ⟨x, len, c, zs, rfl, _, hl, hm, hz, _, hcell, hwz⟩
  · exact ⟨none, 0, 0, [], rfl, IsB.nil _ _, Nat.le_refl _⟩
  · have hz' : len ≤ zs.length := by rw [hz]; split <;> omega
    refine ⟨some x, len, c, (zs.take len).map (fun z => UInt8.ofNat z.toNat), rfl, ⟨by simp; omega, fun hn => ?_⟩, hl⟩
    have h0 := hcell 0 (by omega)
    obtain ⟨b, o, sp⟩ := x
    have hsp : sp = none := by simpa [Addr.add] using World.cell?_spot h0
    subst hsp
    refine ⟨b, o, rfl, fun i hi => ?_⟩
    have hi' : i < zs.length := by simp at hi; omega
    have := hcell i hi'
    rw [Addr.add_mid] at this
    rw [this]
    have hg : zs.getD i 0 = zs[i] := by simp [hi']
    have hwi := wf_u8j (hwz zs[i] (List.getElem_mem hi'))
    rw [hg]
    congr 2
    simp only [List.getElem_map, List.getElem_take, UInt8.toNat_ofNat']
    omega
set_option maxRecDepth 100000 in
theorem module_of {n : Nat} {cs : List Value} {y : DataW H × List MemPlace} (h : DataW.trod enc Tryd.prog W base spare held n 35 cs = some y) : ∃ (m : Md) (D : Option Addr) (c : Nat), cs = mdV m D c ∧ m.data.length ≤ c ∧ IsB W D m.data.length m.data := by
  obtain ⟨xs, k, _, _, hlen, hxl, hf⟩ := DataW.trod_struct Tryd.underlying35 h
  rw [cellsJ35] at hlen
  match xs, hxl, cs, hlen with
  | [x0, x1, x2, x3, x4], _, [c0, c1, c2, c3, c4], hlen =>
    have g0 := hf 0 _ rfl
    have g1 := hf 1 _ rfl
    have g2 := hf 2 _ rfl
    have g3 := hf 3 _ rfl
    have g4 := hf 4 _ rfl
    simp [cellsJ3, cellsJ9, cellsJ23] at g0 g1 g2 g3 g4
    obtain ⟨s0, e0, _, _⟩ := DataW.trod_string Tryd.underlying9 g0
    obtain ⟨z1, e1, _, _⟩ := DataW.trod_int Tryd.underlying3 g1
    obtain ⟨z2, e2, _, _⟩ := DataW.trod_int Tryd.underlying3 g2
    obtain ⟨z3, e3, _, _⟩ := DataW.trod_int Tryd.underlying3 g3
    obtain ⟨A, len, c, bs, e4, hI, hc⟩ := bytes_sl g4
    simp only [List.cons.injEq, and_true] at e0 e1 e2 e3 e4
    obtain rfl := hI.1
    exact ⟨⟨s0.data.toList, z1, z2, z3, bs⟩, A, c, by rw [e0, e1, e2, e3, e4]; rfl, hc, hI⟩
set_option maxRecDepth 100000 in
theorem open_mods {fuel : Nat} {A : Option Addr} {len cap : Nat} {x : DataW H × List MemPlace} (h : DataW.trod enc Tryd.prog W base spare held fuel 25 [.slice A len cap] = some x) : ∃ ms, IsMs W A len ms ∧ len ≤ cap := by
  rcases open_slice Tryd.underlying25 h with ⟨hcs, _⟩ | ⟨a, len', cap', m, n, D, Pl, hcs, hb, hl, hm, hmm, hx, hall⟩
  · simp only [List.cons.injEq, and_true] at hcs
    injection hcs with e1 e2 e3
    subst e1 e2 e3
    exact ⟨[], IsMs.nil _ _, Nat.le_refl _⟩
  · simp only [List.cons.injEq, and_true] at hcs
    injection hcs with e1 e2 e3
    subst e1 e2 e3
    rcases Nat.eq_zero_or_pos len with h0 | h0
    · subst h0
      exact ⟨[], IsMs.nil _ _, hl⟩
    have hm0 : len ≤ m := by rw [hmm]; split <;> omega
    obtain ⟨b, o, spot⟩ := a
    have hspot : spot = none := by
      obtain ⟨_, h10, h20⟩ := hall 0 (by omega)
      rw [cellsJ35] at h10
      obtain ⟨_, hl0, hcell0⟩ := World.cells?_some h10
      have h11 := hcell0 0 (by omega)
      rw [List.getElem?_eq_getElem (by omega)] at h11
      simpa [Addr.add] using World.cell?_spot h11
    subst hspot
    have hev : ∀ i, i < len → ∃ (m : Md) (D : Option Addr) (dc : Nat), W.rangeAt b (o + i * 5) (mdV m D dc) ∧ m.data.length ≤ dc ∧ IsB W D m.data.length m.data := fun i hi => by
      obtain ⟨cs', h1, h2⟩ := hall i (by omega)
      rw [cellsJ35] at h1
      obtain ⟨_, hlen, hcell⟩ := World.cells?_some h1
      obtain ⟨md, D9, dc9, rfl, h3, h4⟩ := module_of h2
      refine ⟨md, D9, dc9, fun k v hv => ?_, h3, h4⟩
      have hk : k < 5 := by
        have := (List.getElem?_eq_some_iff.1 hv).1
        simpa [mdV] using this
      have h5 := hcell k hk
      rw [Addr.add_mid, Addr.add_mid] at h5
      rw [h5]
      exact hv
    obtain ⟨f, hf⟩ : ∃ f : Nat → Md, ∀ i, i < len → ∃ (D : Option Addr) (dc : Nat), W.rangeAt b (o + i * 5) (mdV (f i) D dc) ∧ (f i).data.length ≤ dc ∧ IsB W D (f i).data.length (f i).data := by
      classical
      refine ⟨fun i => if h : i < len then (hev i h).choose else ⟨[], 0, 0, 0, []⟩, fun i hi => ?_⟩
      simp only [dif_pos hi]
      exact (hev i hi).choose_spec
    refine ⟨(List.range len).map f, ⟨by simp, fun _ => ⟨b, o, rfl, fun r hr => ?_⟩⟩, hl⟩
    have hr2 : r < len := by simpa using hr
    have := hf r hr2
    simpa using this
end
end Go.Proofs.YtigbmlgllgcbhaaDoor
