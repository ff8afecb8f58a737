/- Image: modules in memory; Find. -/
import Derived.Test.YtigbmlgllgcbhaaDoorIa
import Derived.Test.YtigbmlgllgcbhaaDoorIm
namespace Go.Proofs.YtigbmlgllgcbhaaDoor
open Go.RowKit
set_option linter.unusedVariables false
set_option linter.unusedSimpArgs false
theorem Row.bornAt {w : World} {g : Nat} (hg : w.heap.size = g) (t : TypeId) (cs : Array Value) : Row (w.alloc (.cells cs t)) g t cs := by subst hg; exact Row.born _ _ _
/-- A module's cells. -/
def mdV (m : Md) (D : Option Addr) (dc : Nat) : List Value := [.string (sv m.name), .int .i64 m.kind, .int .i64 m.width, .int .i64 m.entry, .slice D m.data.length dc]
/-- What is known of a slice of modules. -/
def IsMs (w : World) (A : Option Addr) (n : Nat) (ms : List Md) : Prop := n = ms.length ∧ (0 < n → ∃ b o, A = some ⟨b, o, none⟩ ∧ ∀ r (h : r < ms.length), ∃ D dc, w.rangeAt b (o + r * 5) (mdV ms[r] D dc) ∧ ms[r].data.length ≤ dc ∧ IsB w D ms[r].data.length ms[r].data)
theorem IsMs.nil (w : World) (A : Option Addr) : IsMs w A 0 [] := ⟨rfl, fun h => absurd h (by omega)⟩
theorem rangeAt_below {w w' : World} {b o : Nat} {vs : List Value} (h : w.rangeAt b o vs) (hb : Below w.heap.size w w') : w'.rangeAt b o vs := fun i v hi => by
  have h1 := h i v hi
  exact (hb.cell (p := ⟨b, o + i, none⟩) (block_lt_of_cell h1)).trans h1
theorem IsMs.below {w w' : World} {A : Option Addr} {n : Nat} {ms : List Md} (h : IsMs w A n ms) (hb : Below w.heap.size w w') : IsMs w' A n ms := by
  refine ⟨h.1, fun hn => ?_⟩
  obtain ⟨b, o, e, hc⟩ := h.2 hn
  refine ⟨b, o, e, fun r hr => ?_⟩
  obtain ⟨D, dc, h1, h2, h3⟩ := hc r hr
  exact ⟨D, dc, rangeAt_below h1 hb, h2, h3.below hb⟩
theorem IsMs.take {w : World} {A : Option Addr} {n : Nat} {ms : List Md} (h : IsMs w A n ms) (k : Nat) (hk : k ≤ n) : IsMs w A k (ms.take k) := by
  have hn := h.1
  refine ⟨by rw [List.length_take]; omega, fun h0 => ?_⟩
  obtain ⟨b, o, e, hc⟩ := h.2 (by omega)
  refine ⟨b, o, e, fun r hr => ?_⟩
  have hr' : r < ms.length := by rw [List.length_take] at hr; omega
  obtain ⟨D, dc, h1, h2, h3⟩ := hc r hr'
  refine ⟨D, dc, ?_⟩
  rw [List.getElem_take]
  exact ⟨h1, h2, h3⟩
theorem mdV_one (m : Md) (D : Option Addr) (dc : Nat) : (mdV m D dc).toArray.all (·.oneCell') = true := by simp [mdV, Value.oneCell']
theorem info35 (m : Md) (D : Option Addr) (dc : Nat) : (Tryd.prog.info? 35).map (·.size) = some (mdV m D dc).toArray.size := by
  show (Tryd.prog.info? 35).map (·.size) = some 5
  kernel_rfl
theorem md_cells {w : World} {g : Nat} {m : Md} {D : Option Addr} {dc : Nat} (h : Row w g 35 (mdV m D dc).toArray) : w.cell? ⟨g, 0, none⟩ = some (.string (sv m.name)) ∧ w.cell? ⟨g, 1, none⟩ = some (.int .i64 m.kind) ∧ w.cell? ⟨g, 2, none⟩ = some (.int .i64 m.width) ∧ w.cell? ⟨g, 3, none⟩ = some (.int .i64 m.entry) ∧ w.cell? ⟨g, 4, none⟩ = some (.slice D m.data.length dc) :=
  ⟨h.cell 0, h.cell 1, h.cell 2, h.cell 3, h.cell 4⟩
def ZM : Array Value := #[.string ByteArray.empty, .int .i64 0, .int .i64 0, .int .i64 0, .slice none 0 0]
def mdIs (nm : List UInt8) (wd : Int) (m : Md) : Bool := m.name == nm && m.width == wd
/-- Where the first module of a name and a width stands. -/
def fndI (ms : List Md) (nm : List UInt8) (wd : Int) : Nat := ms.findIdx (mdIs nm wd)
def fndB (ms : List Md) (nm : List UInt8) (wd : Int) : Bool := ms.any (mdIs nm wd)
def fndK (ms : List Md) (nm : List UInt8) (wd : Int) : Int := if fndB ms nm wd = true then (fndI ms nm wd : Int) else 0
theorem fnd_at {ms : List Md} {nm : List UInt8} {wd : Int} {j : Nat} (hj : j < ms.length) (h1 : ∀ i (h : i < ms.length), i < j → mdIs nm wd ms[i] = false) (h2 : mdIs nm wd ms[j] = true) : fndB ms nm wd = true ∧ fndK ms nm wd = j := by
  have hb : fndB ms nm wd = true := List.any_eq_true.2 ⟨ms[j], List.getElem_mem hj, h2⟩
  have hi : fndI ms nm wd = j := by
    unfold fndI
    rw [List.findIdx_eq hj]
    exact ⟨h2, fun i hi => by have := h1 i (by omega) hi; simpa using this⟩
  exact ⟨hb, by unfold fndK; rw [if_pos hb, hi]⟩
theorem fnd_no {ms : List Md} {nm : List UInt8} {wd : Int} (h1 : ∀ i (h : i < ms.length), mdIs nm wd ms[i] = false) : fndB ms nm wd = false ∧ fndK ms nm wd = 0 := by
  have hb : fndB ms nm wd = false := by
    cases h : fndB ms nm wd
    · rfl
    · obtain ⟨m, hm, hx⟩ := List.any_eq_true.1 h
      obtain ⟨i, hi, rfl⟩ := List.getElem_of_mem hm
      rw [h1 i hi] at hx
      exact absurd hx (by decide)
  exact ⟨hb, by unfold fndK; rw [hb]; rfl⟩
def FndP (ms : List Md) (nm : List UInt8) (wd : Int) (W : World) (en : Ending) (W' : World) : Prop := en = .returned (.tuple #[.int .i64 (fndK ms nm wd), .bool (fndB ms nm wd)]) ∧ Below W.heap.size W W'
theorem fnd_mk {ms : List Md} {nm : List UInt8} {wd k : Int} {b : Bool} (h : fndB ms nm wd = b ∧ fndK ms nm wd = k) {W W' : World} (hb : Below W.heap.size W W') : FndP ms nm wd W (.returned (.tuple #[.int .i64 k, .bool b])) W' := ⟨by rw [h.1, h.2], hb⟩
set_option maxRecDepth 100000 in
set_option maxHeartbeats 4000000 in
theorem find20 (ms : List Md) (A : Option Addr) (c : Nat) (nm : List UInt8) (wd : Int) (W : World) (hM : IsMs W A ms.length ms) (hl : ms.length ≤ 1000000) : Calls Tryd.prog 20 #[.slice A ms.length c, .string (sv nm), .int .i64 wd] W (FndP ms nm wd W) := by
  have hls := sv_list nm
  go_enter Tryd.func20, Tryd.ntmps20
  go_upto_region 2 with (fail)
  go_loopw [12] (fun i wr => ∃ j : Nat, j ≤ ms.length ∧ i = .int .i64 j ∧ Below W.heap.size W wr ∧ ∀ k (h : k < ms.length), k < j → mdIs nm wd ms[k] = false) (fun i _ => ms.length - (intOf i).toNat)
  case atStart => exact ⟨0, by omega, rfl, Below.refl _ _, fun k h h2 => by omega⟩
  case round =>
    obtain ⟨j, hj, rfl, hB, hall⟩ := hrel
    have HA := Lib.hid hall
    clear hall
    rcases Nat.lt_or_ge j ms.length with hjl | hjl
    · have d1 : decide (j < ms.length) = true := decide_eq_true hjl
      have hji : (j : Int) < ms.length := by omega
      have hj0 : (0 : Int) ≤ (j : Int) := by omega
      have hM1 := hM.below hB
      obtain ⟨b, o, hA, hc⟩ := hM1.2 (by omega)
      subst hA
      obtain ⟨D, dc, hrg, -, -⟩ := hc j hjl
      obtain ⟨m, hm⟩ : ∃ m, ms[j] = m := ⟨_, rfl⟩
      rw [hm] at hrg
      have HM := Lib.hid hm
      have hlm := sv_list m.name
      clear hc hM1 hm
      have hnt : (m.name == nm) = true ∨ (m.name == nm) = false := by cases m.name == nm <;> simp
      have hwt : (m.width == wd) = true ∨ (m.width == wd) = false := by cases m.width == wd <;> simp
      have hrg2 : wr.rangeAt b (o + j * 5) (mdV m D dc).toArray.toList := by simpa using hrg
      go_upto_region 4 with (first | ((with_reducible refine wp_load_g ?_ hrg2 Tryd.underlying35 rfl (info35 _ _ _) ?_ ?_); rfl; rfl) | ((with_reducible refine wp_row_store (L := (mdV m D dc).toArray) (Row.bornAt (g := wr.heap.size) rfl 35 _) ?_ (info35 _ _ _) (mdV_one _ _ _) ?_ ?_ ?_); rfl; rfl; rfl; intro w3 u3 r3))
      have hB := Upd.below (hB.trans (((Below.refl wr.heap.size wr).alloc (Nat.le_refl _) (.cells ZM 35)).mono hB.size)) u3 hB.size
      obtain ⟨c0, c1, c2, c3, c4⟩ := md_cells r3
      rcases hnt with hnt | hnt
      · rcases hwt with hwt | hwt
        · have hx := Lib.hid (fnd_at hjl HA.out (by rw [HM.out]; unfold mdIs; rw [hnt, hwt]; rfl))
          go_wp2
          go_ret2
          exact fnd_mk hx.out hB
        · have hx := Lib.hid (show mdIs nm wd m = false by unfold mdIs; rw [hwt]; simp)
          go_wp2
          exact ⟨⟨j + 1, by omega, by go_num, hB, fun k h hk => by rcases Nat.lt_or_ge k j with h5 | h5; exact HA.out k h h5; obtain rfl : k = j := (by omega); exact HM.out ▸ hx.out⟩, by simp [intOf]; omega⟩
      · have hx := Lib.hid (show mdIs nm wd m = false by unfold mdIs; rw [hnt]; rfl)
        go_wp2
        exact ⟨⟨j + 1, by omega, by go_num, hB, fun k h hk => by rcases Nat.lt_or_ge k j with h5 | h5; exact HA.out k h h5; obtain rfl : k = j := (by omega); exact HM.out ▸ hx.out⟩, by simp [intOf]; omega⟩
    · obtain rfl : j = ms.length := by omega
      have d1 : decide (ms.length < ms.length) = false := by simp
      have hx := Lib.hid (fnd_no (fun i h => HA.out i h h))
      go_wp2
      go_ret2
      exact fnd_mk hx.out hB
set_option maxRecDepth 100000 in
set_option maxHeartbeats 4000000 in
theorem rfind21 (ms : List Md) (A : Option Addr) (c : Nat) (nm : List UInt8) (wd : Int) (W : World) (hM : IsMs W A ms.length ms) (hl : ms.length ≤ 1000000) : Calls Tryd.prog 21 #[.slice A ms.length c, .string (sv nm), .int .i64 wd] W (FndP ms nm wd W) := by
  have hls := sv_list nm
  go_enter Tryd.func21, Tryd.ntmps21
  go_upto_region 2 with (fail)
  go_loopw [8] (fun i wr => ∃ j : Nat, j ≤ ms.length ∧ i = .int .i64 j ∧ Below W.heap.size W wr ∧ ∀ k (h : k < ms.length), k < j → mdIs nm wd ms[k] = false) (fun i _ => ms.length - (intOf i).toNat)
  case atStart => exact ⟨0, by omega, rfl, Below.refl _ _, fun k h h2 => by omega⟩
  case round =>
    obtain ⟨j, hj, rfl, hB, hall⟩ := hrel
    have HA := Lib.hid hall
    clear hall
    rcases Nat.lt_or_ge j ms.length with hjl | hjl
    · have d1 : decide (j < ms.length) = true := decide_eq_true hjl
      have hji : (j : Int) < ms.length := by omega
      have hj0 : (0 : Int) ≤ (j : Int) := by omega
      have hM1 := hM.below hB
      obtain ⟨b, o, hA, hc⟩ := hM1.2 (by omega)
      subst hA
      obtain ⟨D, dc, hrg, -, -⟩ := hc j hjl
      obtain ⟨m, hm⟩ : ∃ m, ms[j] = m := ⟨_, rfl⟩
      rw [hm] at hrg
      have HM := Lib.hid hm
      have hlm := sv_list m.name
      clear hc hM1 hm
      have hnt : (m.name == nm) = true ∨ (m.name == nm) = false := by cases m.name == nm <;> simp
      have hwt : (m.width == wd) = true ∨ (m.width == wd) = false := by cases m.width == wd <;> simp
      have k0 : wr.cell? ⟨b, o + j * 5, none⟩ = some (.string (sv m.name)) := hrg 0 _ rfl
      have k2 : wr.cell? ⟨b, o + j * 5 + 2, none⟩ = some (.int .i64 m.width) := hrg 2 _ rfl
      rcases hnt with hnt | hnt
      · rcases hwt with hwt | hwt
        · have hx := Lib.hid (fnd_at hjl HA.out (by rw [HM.out]; unfold mdIs; rw [hnt, hwt]; rfl))
          go_wp2
          go_ret2
          exact fnd_mk hx.out hB
        · have hx := Lib.hid (show mdIs nm wd m = false by unfold mdIs; rw [hwt]; simp)
          go_wp2
          exact ⟨⟨j + 1, by omega, by go_num, hB, fun k h hk => by rcases Nat.lt_or_ge k j with h5 | h5; exact HA.out k h h5; obtain rfl : k = j := (by omega); exact HM.out ▸ hx.out⟩, by simp [intOf]; omega⟩
      · have hx := Lib.hid (show mdIs nm wd m = false by unfold mdIs; rw [hnt]; rfl)
        go_wp2
        exact ⟨⟨j + 1, by omega, by go_num, hB, fun k h hk => by rcases Nat.lt_or_ge k j with h5 | h5; exact HA.out k h h5; obtain rfl : k = j := (by omega); exact HM.out ▸ hx.out⟩, by simp [intOf]; omega⟩
    · obtain rfl : j = ms.length := by omega
      have d1 : decide (ms.length < ms.length) = false := by simp
      have hx := Lib.hid (fnd_no (fun i h => HA.out i h h))
      go_wp2
      go_ret2
      exact fnd_mk hx.out hB
end Go.Proofs.YtigbmlgllgcbhaaDoor
