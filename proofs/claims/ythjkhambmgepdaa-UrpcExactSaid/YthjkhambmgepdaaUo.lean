/- How a remote message and an end of a connection that came in are opened. -/
import Derived.Test.YthjkhambmgepdaaUj
import Derived.Test.YthjkhambmgepdaaIsRow
import Derived.Deep.Fields
import Derived.Deep.SlicePairs
import Derived.Lib.SmallJoins
import Derived.OpenShut
namespace Go.Proofs.Ythjkhambmgepdaa
open Go.RowKit Go.Deep Go.ChangeShapes Go.WideShapes
set_option linter.unusedVariables false
set_option linter.unusedSimpArgs false
theorem cellsU3 : Try.prog.cellsOf 3 = 1 := by kernel_rfl
theorem cellsU4 : Try.prog.cellsOf 4 = 1 := by kernel_rfl
theorem cellsU28 : Try.prog.cellsOf 28 = 1 := by kernel_rfl
theorem cellsU44 : Try.prog.cellsOf 44 = 1 := by kernel_rfl
theorem cellsU52 : Try.prog.cellsOf 52 = 1 := by kernel_rfl
theorem cellsU97 : Try.prog.cellsOf 97 = 5 := by kernel_rfl
theorem cellsU112 : Try.prog.cellsOf 112 = 6 := by kernel_rfl
section
variable {H : Type} {enc : TypeId × Value → H} {W : World} {base : Nat} {spare : Nat → Bool} {held : Bool}
theorem bytes_sl {n : Nat} {l : List Value} {y : DataW H × List MemPlace} (h : DataW.trod enc Try.prog W base spare held n 44 l = some y) : ∃ A len c bs, l = [.slice A len c] ∧ IsB W A len bs ∧ len ≤ c := by
  rcases open_ints Try.underlying44 Try.underlying5 (by kernel_rfl) h with ⟨rfl, _⟩ | ⟨x, len, c, zs, rfl, _, hl, hm, hz, _, hcell, hwz⟩
  · exact ⟨none, 0, 0, [], rfl, IsB.nil _ _, Nat.le_refl _⟩
  · have hz' : len ≤ zs.length := by rw [hz]; split <;> omega
    refine ⟨some x, len, c, (zs.take len).map (fun z => UInt8.ofNat z.toNat), rfl, ⟨by simp; omega, fun hn => ?_⟩, hl⟩
    have h0 := hcell 0 (by omega)
    obtain ⟨b, o, sp⟩ := x
    have hsp : sp = none := by simpa [Addr.add] using World.cell?_spot h0
    subst hsp
    refine ⟨b, o, rfl, fun i hi => ?_⟩
    have hi' : i < zs.length := by simp at hi; omega
    have := hcell i hi'
    rw [Addr.add_mid] at this
    rw [this]
    have hg : zs.getD i 0 = zs[i] := by simp [hi']
    have hwi := wf_u8 (hwz zs[i] (List.getElem_mem hi'))
    rw [hg]
    congr 2
    simp only [List.getElem_map, List.getElem_take, UInt8.toNat_ofNat']
    omega
theorem ints_sl {n : Nat} {l : List Value} {y : DataW H × List MemPlace} (h : DataW.trod enc Try.prog W base spare held n 52 l = some y) : ∃ A len c zs, l = [.slice A len c] ∧ IsN W A len zs ∧ len ≤ c ∧ ∀ z ∈ zs, (Lit.int .i64 z).wf = true := by
  rcases open_ints Try.underlying52 Try.underlying3 (by kernel_rfl) h with ⟨rfl, _⟩ | ⟨x, len, c, zs, rfl, _, hl, hm, hz, _, hcell, hwz⟩
  · exact ⟨none, 0, 0, [], rfl, IsN.nil _ _, Nat.le_refl _, fun z hz => by cases hz⟩
  · have hz' : len ≤ zs.length := by rw [hz]; split <;> omega
    refine ⟨some x, len, c, zs.take len, rfl, ⟨by simp; omega, fun hn => ?_⟩, hl, fun z hz => hwz z (List.mem_of_mem_take hz)⟩
    have h0 := hcell 0 (by omega)
    obtain ⟨b, o, sp⟩ := x
    have hsp : sp = none := by simpa [Addr.add] using World.cell?_spot h0
    subst hsp
    refine ⟨b, o, rfl, fun i hi => ?_⟩
    have hi' : i < zs.length := by simp at hi; omega
    have := hcell i hi'
    rw [Addr.add_mid] at this
    rw [this]
    have hg : zs.getD i 0 = zs[i] := by simp [hi']
    rw [hg]
    simp
set_option maxRecDepth 100000 in
theorem remote_of {n : Nat} {cs : List Value} {y : DataW H × List MemPlace} (h : DataW.trod enc Try.prog W base spare held n 97 cs = some y) : ∃ (m : RM) (A : Option Addr) (c : Nat), cs = (RMV m A c).toList ∧ IsB W A m.b.length m.b ∧ m.b.length ≤ c := by
  obtain ⟨xs, k, _, _, hlen, hxl, hf⟩ := DataW.trod_struct Try.underlying97 h
  rw [cellsU97] at hlen
  match xs, hxl, cs, hlen with
  | [x0, x1, x2, x3, x4], _, [c0, c1, c2, c3, c4], hlen =>
    have g0 := hf 0 _ rfl
    have g1 := hf 1 _ rfl
    have g2 := hf 2 _ rfl
    have g3 := hf 3 _ rfl
    have g4 := hf 4 _ rfl
    simp [cellsU3, cellsU28, cellsU44] at g0 g1 g2 g3 g4
    obtain ⟨z0, e0, _, _⟩ := DataW.trod_int Try.underlying3 g0
    obtain ⟨z1, e1, _, _⟩ := DataW.trod_int Try.underlying3 g1
    obtain ⟨z2, e2, _, _⟩ := DataW.trod_int Try.underlying3 g2
    obtain ⟨z3, e3, _, _⟩ := DataW.trod_int Try.underlying28 g3
    obtain ⟨A, len, c, bs, e4, hI, hc⟩ := bytes_sl g4
    simp only [List.cons.injEq, and_true] at e0 e1 e2 e3 e4
    obtain rfl := hI.1
    exact ⟨⟨z0, z1, z2, z3, bs⟩, A, c, by rw [e0, e1, e2, e3, e4]; rfl, hI, hc⟩
set_option maxRecDepth 100000 in
theorem open_remote {rc : Reach} {b0 : Nat} {v : Value} {d : DataW H} {p : List MemPlace} (hv : Value.okWide Try.prog W rc b0 97 v) (h : DataW.Trod enc Try.prog W base spare held 97 v d p) :
    ∃ (m : RM) (A : Option Addr) (c : Nat), v = .agg (RMV m A c) ∧ IsB W A m.b.length m.b ∧ m.b.length ≤ c := by
  obtain ⟨cs, rfl, hsz⟩ := okWide_struct Try.underlying97 hv
  obtain ⟨fuel, hf⟩ := h
  obtain ⟨m, A, c, h1, h2, h3⟩ := remote_of hf
  refine ⟨m, A, c, ?_, h2, h3⟩
  have h4 : cs.toList = (RMV m A c).toList := h1
  rw [Array.toList_inj.1 h4]
set_option maxRecDepth 100000 in
theorem urpc_of {n : Nat} {cs : List Value} {y : DataW H × List MemPlace} (h : DataW.trod enc Try.prog W base spare held n 112 cs = some y) : ∃ (e : UE) (A : Option Addr) (c : Nat) (B : Option Addr) (d : Nat), cs = (UEV e A c B d).toList ∧ IsN W A e.cs.length e.cs ∧ IsN W B e.ss.length e.ss ∧ e.ss.length ≤ d := by
  obtain ⟨xs, k, _, _, hlen, hxl, hf⟩ := DataW.trod_struct Try.underlying112 h
  rw [cellsU112] at hlen
  match xs, hxl, cs, hlen with
  | [x0, x1, x2, x3, x4, x5], _, [c0, c1, c2, c3, c4, c5], hlen =>
    have g0 := hf 0 _ rfl
    have g1 := hf 1 _ rfl
    have g2 := hf 2 _ rfl
    have g3 := hf 3 _ rfl
    have g4 := hf 4 _ rfl
    have g5 := hf 5 _ rfl
    simp [cellsU3, cellsU4, cellsU52] at g0 g1 g2 g3 g4 g5
    obtain ⟨z0, e0, _, _⟩ := DataW.trod_int Try.underlying3 g0
    obtain ⟨z1, e1, _, _⟩ := DataW.trod_int Try.underlying3 g1
    obtain ⟨z2, e2, _, _⟩ := DataW.trod_int Try.underlying3 g2
    obtain ⟨A, la, c, zs, e3, hA, _, _⟩ := ints_sl g3
    obtain ⟨B, lb, d, ys, e4, hB, hcd, _⟩ := ints_sl g4
    obtain ⟨z5, e5, _⟩ := DataW.trod_bool Try.underlying4 g5
    simp only [List.cons.injEq, and_true] at e0 e1 e2 e3 e4 e5
    obtain rfl := hA.1
    obtain rfl := hB.1
    exact ⟨⟨z0, z1, z2, zs, ys, z5⟩, A, c, B, d, by rw [e0, e1, e2, e3, e4, e5]; rfl, hA, hB, hcd⟩
set_option maxRecDepth 100000 in
theorem open_urpc {rc : Reach} {b0 : Nat} {v : Value} {dt : DataW H} {p : List MemPlace} (hv : Value.okWide Try.prog W rc b0 112 v) (h : DataW.Trod enc Try.prog W base spare held 112 v dt p) :
    ∃ (e : UE) (A : Option Addr) (c : Nat) (B : Option Addr) (d : Nat), v = .agg (UEV e A c B d) ∧ IsN W A e.cs.length e.cs ∧ IsN W B e.ss.length e.ss ∧ e.ss.length ≤ d := by
  obtain ⟨cs, rfl, hsz⟩ := okWide_struct Try.underlying112 hv
  obtain ⟨fuel, hf⟩ := h
  obtain ⟨e, A, c, B, d, h1, h2, h3⟩ := urpc_of hf
  refine ⟨e, A, c, B, d, ?_, h2, h3⟩
  have h4 : cs.toList = (UEV e A c B d).toList := h1
  rw [Array.toList_inj.1 h4]
end
end Go.Proofs.Ythjkhambmgepdaa
