/- Texts Uf, without what this claim does not use. -/
import Derived.Test.YthjkhambmgepdaaQae
namespace Go.Proofs.Ythjkhambmgepdaa
section
open Go.RowKit
set_option linter.unusedVariables false
set_option linter.unusedSimpArgs false
theorem OwnN.lower {w : World} {base b2 : Nat} {e : TypeId} {A : Option Addr} {n c : Nat} {l : List Int} (h : OwnN w base e A n c l) (hb : b2 ≤ base) : OwnN w b2 e A n c l := by
  obtain ⟨h1, h2⟩ := h
  refine ⟨h1, ?_⟩
  rcases h2 with h2 | ⟨g, cap, cur, e1, hg, r⟩
  · exact .inl h2
  · exact .inr ⟨g, cap, cur, e1, Nat.le_trans hb hg, r⟩
structure UE where
  (cr la se : Int) (cs ss : List Int) (dd : Bool)
def UEV (e : UE) (A : Option Addr) (c : Nat) (B : Option Addr) (d : Nat) : Array Value := #[.int .i64 e.cr, .int .i64 e.la, .int .i64 e.se, .slice A e.cs.length c, .slice B e.ss.length d, .bool e.dd]
theorem info112 : (Try.prog.info? 112).map (·.size) = some 6 := by kernel_rfl
theorem uev_one (e : UE) (A : Option Addr) (c : Nat) (B : Option Addr) (d : Nat) : (UEV e A c B d).all (·.oneCell') = true := by simp [UEV, Value.oneCell']
theorem uev_info (e : UE) (A : Option Addr) (c : Nat) (B : Option Addr) (d : Nat) : (Try.prog.info? 112).map (·.size) = some (UEV e A c B d).size := info112
def ue0 : UE := ⟨0, 0, 0, [], [], false⟩
def ZU : Array Value := UEV ue0 none 0 none 0
theorem zu_one : ZU.all (·.oneCell') = true := uev_one _ _ _ _ _
theorem zu_info : (Try.prog.info? 112).map (·.size) = some ZU.size := info112
structure HeldU (w : World) (e : UE) (A : Option Addr) (c : Nat) (B : Option Addr) (d : Nat) : Prop where
  a : IsN w A e.cs.length e.cs
  b : IsN w B e.ss.length e.ss
  al : e.cs.length ≤ 1000
  bl : e.ss.length ≤ 1000
theorem HeldU.below {w w' : World} {e : UE} {A B : Option Addr} {c d : Nat} (h : HeldU w e A c B d) (hb : Below w.heap.size w w') : HeldU w' e A c B d := ⟨h.a.below hb, h.b.below hb, h.al, h.bl⟩
def Ap (A B : Option Addr) : Prop := ∀ a b, A = some a → B = some b → a.block ≠ b.block
structure OwnU (w : World) (base : Nat) (e : UE) (A : Option Addr) (c : Nat) (B : Option Addr) (d : Nat) : Prop where
  a : OwnN w base 3 A e.cs.length c e.cs
  b : OwnN w base 3 B e.ss.length d e.ss
  ap : Ap A B
theorem OwnU.held {w : World} {base : Nat} {e : UE} {A B : Option Addr} {c d : Nat} (h : OwnU w base e A c B d) (h1 : e.cs.length ≤ 1000) (h2 : e.ss.length ≤ 1000) : HeldU w e A c B d := ⟨h.a.isB, h.b.isB, h1, h2⟩
theorem OwnU.below {w w' : World} {base : Nat} {e : UE} {A B : Option Addr} {c d : Nat} (h : OwnU w base e A c B d) (hb : Below w.heap.size w w') : OwnU w' base e A c B d := ⟨h.a.below hb, h.b.below hb, h.ap⟩
theorem OwnU.keeps {ts : List TypeId} {w w' : World} {base : Nat} {e : UE} {A B : Option Addr} {c d : Nat} (h : OwnU w base e A c B d) (k : Keeps ts w w') (h3 : 3 ∉ ts) : OwnU w' base e A c B d := ⟨h.a.keeps k h3, h.b.keeps k h3, h.ap⟩
def bdB (e : UE) : Bool := decide (1 ≤ e.cr) && (decide (e.cr ≤ 16) && (decide (0 ≤ e.la) && (decide (e.la ≤ 1099511627776) && (decide (0 ≤ e.se) && decide (e.se ≤ 1099511627776)))))
def uV (e : UE) : Bool := bdB e && (numB e.la e.cr e.cs && (numB e.se e.cr e.ss && (!e.dd || decide (e.cs.length + e.ss.length = 0))))
def uE (e : UE) : Int := if uV e = true then (if e.dd = true then 16 else 0) else 74
def nwU (n : Int) : UE := ⟨n, 0, 0, [], [], false⟩
def nwK (n : Int) : Bool := decide (1 ≤ n) && decide (n ≤ 16)
theorem uev_cells {w : World} {g : Nat} {e : UE} {A B : Option Addr} {c d : Nat} (h : Row w g 112 (UEV e A c B d)) : (w.cell? ⟨g, 0, none⟩ = some (.int .i64 e.cr) ∧ w.cell? ⟨g, 1, none⟩ = some (.int .i64 e.la) ∧ w.cell? ⟨g, 2, none⟩ = some (.int .i64 e.se)) ∧ w.cell? ⟨g, 3, none⟩ = some (.slice A e.cs.length c) ∧ w.cell? ⟨g, 4, none⟩ = some (.slice B e.ss.length d) ∧ w.cell? ⟨g, 5, none⟩ = some (.bool e.dd) :=
  ⟨⟨h.cell 0, h.cell 1, h.cell 2⟩, h.cell 3, h.cell 4, h.cell 5⟩
def NwU (n : Int) (W : World) (en : Ending) (W' : World) : Prop := Below W.heap.size W W' ∧ ((nwK n = false ∧ en = .returned (.tuple #[.agg ZU, .int .i64 6])) ∨ (nwK n = true ∧ en = .returned (.tuple #[.agg (UEV (nwU n) none 0 none 0), .int .i64 0])))
set_option maxRecDepth 100000 in
set_option maxHeartbeats 8000000 in
theorem newU_0 (n : Int) (W : World) (h : n < 1) : Calls Try.prog 71 #[.int .i64 n] W (NwU n W) := by
  have HK := Lib.hid (show nwK n = false by unfold nwK; simp; omega)
  have d1 : decide (n < 1) = true := dt h
  clear h
  have hB1 := (Below.refl W.heap.size W).alloc (Nat.le_refl _) (.cells ZU 112)
  have r1 := Row.born W 112 ZU
  go_enter Try.func71, Try.ntmps71
  go_upto_region 1 with (fail)
  change Code.wp _ _ _ _ (W.alloc (.cells ZU 112))
  generalize W.alloc (.cells ZU 112) = w1 at *
  go_wp2_with ((with_reducible refine wp_row_store (L := ZU) r1 rfl zu_info zu_one ?_ ?_ ?_); rfl; rfl; intro w9 u9 r9)
  refine bodyPost_ret (results_ct rfl rfl r9 Try.underlying112 rfl zu_info) rfl ?_
  exact ⟨Upd.below hB1 u9 (Nat.le_refl _), .inl ⟨HK.out, rfl⟩⟩
set_option maxRecDepth 100000 in
set_option maxHeartbeats 8000000 in
theorem newU_1 (n : Int) (W : World) (h : 1 ≤ n ∧ 16 < n) : Calls Try.prog 71 #[.int .i64 n] W (NwU n W) := by
  have HK := Lib.hid (show nwK n = false by unfold nwK; simp; omega)
  have d1 : decide (n < 1) = false := df (by omega)
  have d2 : decide (16 < n) = true := dt h.2
  clear h
  have hB1 := (Below.refl W.heap.size W).alloc (Nat.le_refl _) (.cells ZU 112)
  have r1 := Row.born W 112 ZU
  go_enter Try.func71, Try.ntmps71
  go_upto_region 1 with (fail)
  change Code.wp _ _ _ _ (W.alloc (.cells ZU 112))
  generalize W.alloc (.cells ZU 112) = w1 at *
  go_wp2_with ((with_reducible refine wp_row_store (L := ZU) r1 rfl zu_info zu_one ?_ ?_ ?_); rfl; rfl; intro w9 u9 r9)
  refine bodyPost_ret (results_ct rfl rfl r9 Try.underlying112 rfl zu_info) rfl ?_
  exact ⟨Upd.below hB1 u9 (Nat.le_refl _), .inl ⟨HK.out, rfl⟩⟩
set_option maxRecDepth 100000 in
set_option maxHeartbeats 8000000 in
theorem newU_2 (n : Int) (W : World) (h : 1 ≤ n ∧ n ≤ 16) : Calls Try.prog 71 #[.int .i64 n] W (NwU n W) := by
  have HK := Lib.hid (show nwK n = true by unfold nwK; simp; omega)
  have d1 : decide (n < 1) = false := df (by omega)
  have d2 : decide (16 < n) = false := df (by omega)
  clear h
  have hB1 := (Below.refl W.heap.size W).alloc (Nat.le_refl _) (.cells ZU 112)
  have r1 := Row.born W 112 ZU
  go_enter Try.func71, Try.ntmps71
  go_upto_region 1 with (fail)
  change Code.wp _ _ _ _ (W.alloc (.cells ZU 112))
  generalize W.alloc (.cells ZU 112) = w1 at *
  go_wp2_with ((with_reducible refine wp_row_store (L := UEV (nwU n) none 0 none 0) r1 rfl (uev_info _ _ _ _ _) (uev_one _ _ _ _ _) ?_ ?_ ?_); rfl; rfl; intro w9 u9 r9)
  refine bodyPost_ret (results_ct rfl rfl r9 Try.underlying112 rfl (uev_info _ _ _ _ _)) rfl ?_
  exact ⟨Upd.below hB1 u9 (Nat.le_refl _), .inr ⟨HK.out, rfl⟩⟩
theorem newU (n : Int) (W : World) : Calls Try.prog 71 #[.int .i64 n] W (NwU n W) := by
  rcases Int.lt_or_le n 1 with h | h
  · exact newU_0 n W h
  · rcases Int.lt_or_le 16 n with h2 | h2
    · exact newU_1 n W ⟨h, h2⟩
    · exact newU_2 n W ⟨h, h2⟩
def VlU (e : UE) (W : World) (en : Ending) (W' : World) : Prop := en = .returned (.bool (uV e)) ∧ Below W.heap.size W W'
theorem vlu_mk {e : UE} {v : Bool} {W W' : World} (h : uV e = v) (hb : Below W.heap.size W W') : VlU e W (.returned (.bool v)) W' := ⟨by rw [h], hb⟩
set_option maxRecDepth 100000 in
set_option maxHeartbeats 8000000 in
theorem val_0 (e : UE) (A B : Option Addr) (c d : Nat) (W : World) (hH : HeldU W e A c B d) (h : e.cr < 1) : Calls Try.prog 74 #[.agg (UEV e A c B d)] W (VlU e W) := by
  have HV := Lib.hid (show uV e = false by
    unfold uV bdB
    simp only [df (show ¬ 1 ≤ e.cr by omega)]
    simp)
  have d0 : decide (1 ≤ e.cr) = false := df (by omega)
  clear h
  have hal := hH.al
  have hbl := hH.bl
  have hB1 := (Below.refl W.heap.size W).alloc (Nat.le_refl _) (.cells (UEV e A c B d) 112)
  have r1 := Row.born W 112 (UEV e A c B d)
  go_enter Try.func74, Try.ntmps74
  go_upto_region 1 with (fail)
  generalize W.alloc (.cells (UEV e A c B d) 112) = w1 at *
  have hH1 := hH.below hB1
  obtain ⟨⟨c0, c1, c2⟩, c3, c4, c5⟩ := uev_cells r1
  clear r1 hH
  go_wp2
  go_ret
  exact vlu_mk HV.out hB1
set_option maxRecDepth 100000 in
set_option maxHeartbeats 8000000 in
theorem val_1 (e : UE) (A B : Option Addr) (c d : Nat) (W : World) (hH : HeldU W e A c B d) (h : 1 ≤ e.cr ∧ 16 < e.cr) : Calls Try.prog 74 #[.agg (UEV e A c B d)] W (VlU e W) := by
  have HV := Lib.hid (show uV e = false by
    unfold uV bdB
    simp only [dt (show 1 ≤ e.cr by omega), df (show ¬ e.cr ≤ 16 by omega)]
    simp)
  have d0 : decide (1 ≤ e.cr) = true := dt (by omega)
  have d1 : decide (e.cr ≤ 16) = false := df (by omega)
  clear h
  have hal := hH.al
  have hbl := hH.bl
  have hB1 := (Below.refl W.heap.size W).alloc (Nat.le_refl _) (.cells (UEV e A c B d) 112)
  have r1 := Row.born W 112 (UEV e A c B d)
  go_enter Try.func74, Try.ntmps74
  go_upto_region 1 with (fail)
  generalize W.alloc (.cells (UEV e A c B d) 112) = w1 at *
  have hH1 := hH.below hB1
  obtain ⟨⟨c0, c1, c2⟩, c3, c4, c5⟩ := uev_cells r1
  clear r1 hH
  go_wp2
  go_ret
  exact vlu_mk HV.out hB1
set_option maxRecDepth 100000 in
set_option maxHeartbeats 8000000 in
theorem val_2 (e : UE) (A B : Option Addr) (c d : Nat) (W : World) (hH : HeldU W e A c B d) (h : 1 ≤ e.cr ∧ e.cr ≤ 16 ∧ e.la < 0) : Calls Try.prog 74 #[.agg (UEV e A c B d)] W (VlU e W) := by
  have HV := Lib.hid (show uV e = false by
    unfold uV bdB
    simp only [dt (show 1 ≤ e.cr by omega), dt (show e.cr ≤ 16 by omega), df (show ¬ 0 ≤ e.la by omega)]
    simp)
  have d0 : decide (1 ≤ e.cr) = true := dt (by omega)
  have d1 : decide (e.cr ≤ 16) = true := dt (by omega)
  have d2 : decide (0 ≤ e.la) = false := df (by omega)
  clear h
  have hal := hH.al
  have hbl := hH.bl
  have hB1 := (Below.refl W.heap.size W).alloc (Nat.le_refl _) (.cells (UEV e A c B d) 112)
  have r1 := Row.born W 112 (UEV e A c B d)
  go_enter Try.func74, Try.ntmps74
  go_upto_region 1 with (fail)
  generalize W.alloc (.cells (UEV e A c B d) 112) = w1 at *
  have hH1 := hH.below hB1
  obtain ⟨⟨c0, c1, c2⟩, c3, c4, c5⟩ := uev_cells r1
  clear r1 hH
  go_wp2
  go_ret
  exact vlu_mk HV.out hB1
set_option maxRecDepth 100000 in
set_option maxHeartbeats 8000000 in
theorem val_3 (e : UE) (A B : Option Addr) (c d : Nat) (W : World) (hH : HeldU W e A c B d) (h : 1 ≤ e.cr ∧ e.cr ≤ 16 ∧ 0 ≤ e.la ∧ 1099511627776 < e.la) : Calls Try.prog 74 #[.agg (UEV e A c B d)] W (VlU e W) := by
  have HV := Lib.hid (show uV e = false by
    unfold uV bdB
    simp only [dt (show 1 ≤ e.cr by omega), dt (show e.cr ≤ 16 by omega), dt (show 0 ≤ e.la by omega), df (show ¬ e.la ≤ 1099511627776 by omega)]
    simp)
  have d0 : decide (1 ≤ e.cr) = true := dt (by omega)
  have d1 : decide (e.cr ≤ 16) = true := dt (by omega)
  have d2 : decide (0 ≤ e.la) = true := dt (by omega)
  have d3 : decide (e.la ≤ 1099511627776) = false := df (by omega)
  clear h
  have hal := hH.al
  have hbl := hH.bl
  have hB1 := (Below.refl W.heap.size W).alloc (Nat.le_refl _) (.cells (UEV e A c B d) 112)
  have r1 := Row.born W 112 (UEV e A c B d)
  go_enter Try.func74, Try.ntmps74
  go_upto_region 1 with (fail)
  generalize W.alloc (.cells (UEV e A c B d) 112) = w1 at *
  have hH1 := hH.below hB1
  obtain ⟨⟨c0, c1, c2⟩, c3, c4, c5⟩ := uev_cells r1
  clear r1 hH
  go_wp2
  go_ret
  exact vlu_mk HV.out hB1
set_option maxRecDepth 100000 in
set_option maxHeartbeats 8000000 in
theorem val_4 (e : UE) (A B : Option Addr) (c d : Nat) (W : World) (hH : HeldU W e A c B d) (h : 1 ≤ e.cr ∧ e.cr ≤ 16 ∧ 0 ≤ e.la ∧ e.la ≤ 1099511627776 ∧ e.se < 0) : Calls Try.prog 74 #[.agg (UEV e A c B d)] W (VlU e W) := by
  have HV := Lib.hid (show uV e = false by
    unfold uV bdB
    simp only [dt (show 1 ≤ e.cr by omega), dt (show e.cr ≤ 16 by omega), dt (show 0 ≤ e.la by omega), dt (show e.la ≤ 1099511627776 by omega), df (show ¬ 0 ≤ e.se by omega)]
    simp)
  have d0 : decide (1 ≤ e.cr) = true := dt (by omega)
  have d1 : decide (e.cr ≤ 16) = true := dt (by omega)
  have d2 : decide (0 ≤ e.la) = true := dt (by omega)
  have d3 : decide (e.la ≤ 1099511627776) = true := dt (by omega)
  have d4 : decide (0 ≤ e.se) = false := df (by omega)
  clear h
  have hal := hH.al
  have hbl := hH.bl
  have hB1 := (Below.refl W.heap.size W).alloc (Nat.le_refl _) (.cells (UEV e A c B d) 112)
  have r1 := Row.born W 112 (UEV e A c B d)
  go_enter Try.func74, Try.ntmps74
  go_upto_region 1 with (fail)
  generalize W.alloc (.cells (UEV e A c B d) 112) = w1 at *
  have hH1 := hH.below hB1
  obtain ⟨⟨c0, c1, c2⟩, c3, c4, c5⟩ := uev_cells r1
  clear r1 hH
  go_wp2
  go_ret
  exact vlu_mk HV.out hB1
set_option maxRecDepth 100000 in
set_option maxHeartbeats 8000000 in
theorem val_5 (e : UE) (A B : Option Addr) (c d : Nat) (W : World) (hH : HeldU W e A c B d) (h : 1 ≤ e.cr ∧ e.cr ≤ 16 ∧ 0 ≤ e.la ∧ e.la ≤ 1099511627776 ∧ 0 ≤ e.se ∧ 1099511627776 < e.se) : Calls Try.prog 74 #[.agg (UEV e A c B d)] W (VlU e W) := by
  have HV := Lib.hid (show uV e = false by
    unfold uV bdB
    simp only [dt (show 1 ≤ e.cr by omega), dt (show e.cr ≤ 16 by omega), dt (show 0 ≤ e.la by omega), dt (show e.la ≤ 1099511627776 by omega), dt (show 0 ≤ e.se by omega), df (show ¬ e.se ≤ 1099511627776 by omega)]
    simp)
  have d0 : decide (1 ≤ e.cr) = true := dt (by omega)
  have d1 : decide (e.cr ≤ 16) = true := dt (by omega)
  have d2 : decide (0 ≤ e.la) = true := dt (by omega)
  have d3 : decide (e.la ≤ 1099511627776) = true := dt (by omega)
  have d4 : decide (0 ≤ e.se) = true := dt (by omega)
  have d5 : decide (e.se ≤ 1099511627776) = false := df (by omega)
  clear h
  have hal := hH.al
  have hbl := hH.bl
  have hB1 := (Below.refl W.heap.size W).alloc (Nat.le_refl _) (.cells (UEV e A c B d) 112)
  have r1 := Row.born W 112 (UEV e A c B d)
  go_enter Try.func74, Try.ntmps74
  go_upto_region 1 with (fail)
  generalize W.alloc (.cells (UEV e A c B d) 112) = w1 at *
  have hH1 := hH.below hB1
  obtain ⟨⟨c0, c1, c2⟩, c3, c4, c5⟩ := uev_cells r1
  clear r1 hH
  go_wp2
  go_ret
  exact vlu_mk HV.out hB1
set_option maxRecDepth 100000 in
set_option maxHeartbeats 8000000 in
theorem val_6 (e : UE) (A B : Option Addr) (c d : Nat) (W : World) (hH : HeldU W e A c B d) (h : 1 ≤ e.cr ∧ e.cr ≤ 16 ∧ 0 ≤ e.la ∧ e.la ≤ 1099511627776 ∧ 0 ≤ e.se ∧ e.se ≤ 1099511627776 ∧ numB e.la e.cr e.cs = false) : Calls Try.prog 74 #[.agg (UEV e A c B d)] W (VlU e W) := by
  have HV := Lib.hid (show uV e = false by
    unfold uV bdB
    simp only [dt (show 1 ≤ e.cr by omega), dt (show e.cr ≤ 16 by omega), dt (show 0 ≤ e.la by omega), dt (show e.la ≤ 1099511627776 by omega), dt (show 0 ≤ e.se by omega), dt (show e.se ≤ 1099511627776 by omega), h.2.2.2.2.2.2]
    simp)
  have d0 : decide (1 ≤ e.cr) = true := dt (by omega)
  have d1 : decide (e.cr ≤ 16) = true := dt (by omega)
  have d2 : decide (0 ≤ e.la) = true := dt (by omega)
  have d3 : decide (e.la ≤ 1099511627776) = true := dt (by omega)
  have d4 : decide (0 ≤ e.se) = true := dt (by omega)
  have d5 : decide (e.se ≤ 1099511627776) = true := dt (by omega)
  have HN1 := Lib.hid (show numB e.la e.cr e.cs = false from h.2.2.2.2.2.2)
  clear h
  have hal := hH.al
  have hbl := hH.bl
  have hB1 := (Below.refl W.heap.size W).alloc (Nat.le_refl _) (.cells (UEV e A c B d) 112)
  have r1 := Row.born W 112 (UEV e A c B d)
  go_enter Try.func74, Try.ntmps74
  go_upto_region 1 with (fail)
  generalize W.alloc (.cells (UEV e A c B d) 112) = w1 at *
  have hH1 := hH.below hB1
  obtain ⟨⟨c0, c1, c2⟩, c3, c4, c5⟩ := uev_cells r1
  clear r1 hH
  go_wp2_with (first | (go_at_call 120; (with_reducible refine (valid_num e.la e.cr A _ c e.cs _ hH1.a (by omega)).mono ?_); rintro en w' ⟨rfl, h9⟩; rw [h9]; clear h9; rw [HN1.out]) | (go_at_call 120; (with_reducible refine (valid_num e.se e.cr B _ d e.ss _ hH1.b (by omega)).mono ?_); rintro en w' ⟨rfl, h9⟩; rw [h9]; clear h9; rw [HN2.out]))
  go_ret
  exact vlu_mk HV.out hB1
set_option maxRecDepth 100000 in
set_option maxHeartbeats 8000000 in
theorem val_7 (e : UE) (A B : Option Addr) (c d : Nat) (W : World) (hH : HeldU W e A c B d) (h : 1 ≤ e.cr ∧ e.cr ≤ 16 ∧ 0 ≤ e.la ∧ e.la ≤ 1099511627776 ∧ 0 ≤ e.se ∧ e.se ≤ 1099511627776 ∧ numB e.la e.cr e.cs = true ∧ numB e.se e.cr e.ss = false) : Calls Try.prog 74 #[.agg (UEV e A c B d)] W (VlU e W) := by
  have HV := Lib.hid (show uV e = false by
    unfold uV bdB
    simp only [dt (show 1 ≤ e.cr by omega), dt (show e.cr ≤ 16 by omega), dt (show 0 ≤ e.la by omega), dt (show e.la ≤ 1099511627776 by omega), dt (show 0 ≤ e.se by omega), dt (show e.se ≤ 1099511627776 by omega), h.2.2.2.2.2.2.1, h.2.2.2.2.2.2.2]
    simp)
  have d0 : decide (1 ≤ e.cr) = true := dt (by omega)
  have d1 : decide (e.cr ≤ 16) = true := dt (by omega)
  have d2 : decide (0 ≤ e.la) = true := dt (by omega)
  have d3 : decide (e.la ≤ 1099511627776) = true := dt (by omega)
  have d4 : decide (0 ≤ e.se) = true := dt (by omega)
  have d5 : decide (e.se ≤ 1099511627776) = true := dt (by omega)
  have HN1 := Lib.hid (show numB e.la e.cr e.cs = true from h.2.2.2.2.2.2.1)
  have HN2 := Lib.hid (show numB e.se e.cr e.ss = false from h.2.2.2.2.2.2.2)
  clear h
  have hal := hH.al
  have hbl := hH.bl
  have hB1 := (Below.refl W.heap.size W).alloc (Nat.le_refl _) (.cells (UEV e A c B d) 112)
  have r1 := Row.born W 112 (UEV e A c B d)
  go_enter Try.func74, Try.ntmps74
  go_upto_region 1 with (fail)
  generalize W.alloc (.cells (UEV e A c B d) 112) = w1 at *
  have hH1 := hH.below hB1
  obtain ⟨⟨c0, c1, c2⟩, c3, c4, c5⟩ := uev_cells r1
  clear r1 hH
  go_wp2_with (first | (go_at_call 120; (with_reducible refine (valid_num e.la e.cr A _ c e.cs _ hH1.a (by omega)).mono ?_); rintro en w' ⟨rfl, h9⟩; rw [h9]; clear h9; rw [HN1.out]) | (go_at_call 120; (with_reducible refine (valid_num e.se e.cr B _ d e.ss _ hH1.b (by omega)).mono ?_); rintro en w' ⟨rfl, h9⟩; rw [h9]; clear h9; rw [HN2.out]))
  go_ret
  exact vlu_mk HV.out hB1
set_option maxRecDepth 100000 in
set_option maxHeartbeats 8000000 in
theorem val_8 (e : UE) (A B : Option Addr) (c d : Nat) (W : World) (hH : HeldU W e A c B d) (h : 1 ≤ e.cr ∧ e.cr ≤ 16 ∧ 0 ≤ e.la ∧ e.la ≤ 1099511627776 ∧ 0 ≤ e.se ∧ e.se ≤ 1099511627776 ∧ numB e.la e.cr e.cs = true ∧ numB e.se e.cr e.ss = true ∧ e.dd = false) : Calls Try.prog 74 #[.agg (UEV e A c B d)] W (VlU e W) := by
  have HV := Lib.hid (show uV e = true by
    unfold uV bdB
    simp only [dt (show 1 ≤ e.cr by omega), dt (show e.cr ≤ 16 by omega), dt (show 0 ≤ e.la by omega), dt (show e.la ≤ 1099511627776 by omega), dt (show 0 ≤ e.se by omega), dt (show e.se ≤ 1099511627776 by omega), h.2.2.2.2.2.2.1, h.2.2.2.2.2.2.2.1, h.2.2.2.2.2.2.2.2]
    simp)
  have d0 : decide (1 ≤ e.cr) = true := dt (by omega)
  have d1 : decide (e.cr ≤ 16) = true := dt (by omega)
  have d2 : decide (0 ≤ e.la) = true := dt (by omega)
  have d3 : decide (e.la ≤ 1099511627776) = true := dt (by omega)
  have d4 : decide (0 ≤ e.se) = true := dt (by omega)
  have d5 : decide (e.se ≤ 1099511627776) = true := dt (by omega)
  have HN1 := Lib.hid (show numB e.la e.cr e.cs = true from h.2.2.2.2.2.2.1)
  have HN2 := Lib.hid (show numB e.se e.cr e.ss = true from h.2.2.2.2.2.2.2.1)
  have hdd : e.dd = false := h.2.2.2.2.2.2.2.2
  clear h
  have hal := hH.al
  have hbl := hH.bl
  have hB1 := (Below.refl W.heap.size W).alloc (Nat.le_refl _) (.cells (UEV e A c B d) 112)
  have r1 := Row.born W 112 (UEV e A c B d)
  go_enter Try.func74, Try.ntmps74
  go_upto_region 1 with (fail)
  generalize W.alloc (.cells (UEV e A c B d) 112) = w1 at *
  have hH1 := hH.below hB1
  obtain ⟨⟨c0, c1, c2⟩, c3, c4, c5⟩ := uev_cells r1
  rw [hdd] at c5
  clear hdd
  clear r1 hH
  go_wp2_with (first | (go_at_call 120; (with_reducible refine (valid_num e.la e.cr A _ c e.cs _ hH1.a (by omega)).mono ?_); rintro en w' ⟨rfl, h9⟩; rw [h9]; clear h9; rw [HN1.out]) | (go_at_call 120; (with_reducible refine (valid_num e.se e.cr B _ d e.ss _ hH1.b (by omega)).mono ?_); rintro en w' ⟨rfl, h9⟩; rw [h9]; clear h9; rw [HN2.out]))
  go_ret
  exact vlu_mk HV.out hB1
set_option maxRecDepth 100000 in
set_option maxHeartbeats 8000000 in
theorem val_9 (e : UE) (A B : Option Addr) (c d : Nat) (W : World) (hH : HeldU W e A c B d) (h : 1 ≤ e.cr ∧ e.cr ≤ 16 ∧ 0 ≤ e.la ∧ e.la ≤ 1099511627776 ∧ 0 ≤ e.se ∧ e.se ≤ 1099511627776 ∧ numB e.la e.cr e.cs = true ∧ numB e.se e.cr e.ss = true ∧ e.dd = true) : Calls Try.prog 74 #[.agg (UEV e A c B d)] W (VlU e W) := by
  have HV := Lib.hid (show uV e = decide (e.cs.length + e.ss.length = 0) by
    unfold uV bdB
    simp only [dt (show 1 ≤ e.cr by omega), dt (show e.cr ≤ 16 by omega), dt (show 0 ≤ e.la by omega), dt (show e.la ≤ 1099511627776 by omega), dt (show 0 ≤ e.se by omega), dt (show e.se ≤ 1099511627776 by omega), h.2.2.2.2.2.2.1, h.2.2.2.2.2.2.2.1, h.2.2.2.2.2.2.2.2]
    simp)
  have d0 : decide (1 ≤ e.cr) = true := dt (by omega)
  have d1 : decide (e.cr ≤ 16) = true := dt (by omega)
  have d2 : decide (0 ≤ e.la) = true := dt (by omega)
  have d3 : decide (e.la ≤ 1099511627776) = true := dt (by omega)
  have d4 : decide (0 ≤ e.se) = true := dt (by omega)
  have d5 : decide (e.se ≤ 1099511627776) = true := dt (by omega)
  have HN1 := Lib.hid (show numB e.la e.cr e.cs = true from h.2.2.2.2.2.2.1)
  have HN2 := Lib.hid (show numB e.se e.cr e.ss = true from h.2.2.2.2.2.2.2.1)
  have hdd : e.dd = true := h.2.2.2.2.2.2.2.2
  clear h
  have hal := hH.al
  have hbl := hH.bl
  have hws : IntKind.i64.wrap ((e.cs.length : Int) + (e.ss.length : Int)) = (e.cs.length : Int) + (e.ss.length : Int) := by rw [IntKind.wrap_i64]; omega
  have hB1 := (Below.refl W.heap.size W).alloc (Nat.le_refl _) (.cells (UEV e A c B d) 112)
  have r1 := Row.born W 112 (UEV e A c B d)
  go_enter Try.func74, Try.ntmps74
  go_upto_region 1 with (fail)
  generalize W.alloc (.cells (UEV e A c B d) 112) = w1 at *
  have hH1 := hH.below hB1
  obtain ⟨⟨c0, c1, c2⟩, c3, c4, c5⟩ := uev_cells r1
  rw [hdd] at c5
  clear hdd
  clear r1 hH
  go_wp2_with (first | (go_at_call 120; (with_reducible refine (valid_num e.la e.cr A _ c e.cs _ hH1.a (by omega)).mono ?_); rintro en w' ⟨rfl, h9⟩; rw [h9]; clear h9; rw [HN1.out]) | (go_at_call 120; (with_reducible refine (valid_num e.se e.cr B _ d e.ss _ hH1.b (by omega)).mono ?_); rintro en w' ⟨rfl, h9⟩; rw [h9]; clear h9; rw [HN2.out]))
  go_ret
  refine vlu_mk ?_ hB1
  rw [HV.out]
  rw [Bool.eq_iff_iff, beq_iff_eq, decide_eq_true_eq]
  omega
theorem validU (e : UE) (A B : Option Addr) (c d : Nat) (W : World) (hH : HeldU W e A c B d) : Calls Try.prog 74 #[.agg (UEV e A c B d)] W (VlU e W) := by
  rcases Int.lt_or_le e.cr 1 with h0 | h0
  · exact val_0 e A B c d W hH h0
  rcases Int.lt_or_le 16 e.cr with h1 | h1
  · exact val_1 e A B c d W hH ⟨h0, h1⟩
  rcases Int.lt_or_le e.la 0 with h2 | h2
  · exact val_2 e A B c d W hH ⟨h0, h1, h2⟩
  rcases Int.lt_or_le 1099511627776 e.la with h3 | h3
  · exact val_3 e A B c d W hH ⟨h0, h1, h2, h3⟩
  rcases Int.lt_or_le e.se 0 with h4 | h4
  · exact val_4 e A B c d W hH ⟨h0, h1, h2, h3, h4⟩
  rcases Int.lt_or_le 1099511627776 e.se with h5 | h5
  · exact val_5 e A B c d W hH ⟨h0, h1, h2, h3, h4, h5⟩
  cases h6 : numB e.la e.cr e.cs
  · exact val_6 e A B c d W hH ⟨h0, h1, h2, h3, h4, h5, h6⟩
  cases h7 : numB e.se e.cr e.ss
  · exact val_7 e A B c d W hH ⟨h0, h1, h2, h3, h4, h5, h6, h7⟩
  cases h8 : e.dd
  · exact val_8 e A B c d W hH ⟨h0, h1, h2, h3, h4, h5, h6, h7, h8⟩
  · exact val_9 e A B c d W hH ⟨h0, h1, h2, h3, h4, h5, h6, h7, h8⟩
def CkU (e : UE) (W : World) (en : Ending) (W' : World) : Prop := en = .returned (.int .i64 (uE e)) ∧ Below W.heap.size W W'
theorem cku_mk {e : UE} {v : Int} {W W' : World} (h : uE e = v) (hb : Below W.heap.size W W') : CkU e W (.returned (.int .i64 v)) W' := ⟨by rw [h], hb⟩
set_option maxRecDepth 100000 in
set_option maxHeartbeats 8000000 in
theorem chk_no (e : UE) (A B : Option Addr) (c d : Nat) (W : World) (hH : HeldU W e A c B d) (hv : uV e = false) : Calls Try.prog 122 #[.agg (UEV e A c B d)] W (CkU e W) := by
  have HE := Lib.hid (show uE e = 74 by unfold uE; rw [hv]; rfl)
  have HV := Lib.hid hv
  clear hv
  have hB1 := (Below.refl W.heap.size W).alloc (Nat.le_refl _) (.cells (UEV e A c B d) 112)
  have r1 := Row.born W 112 (UEV e A c B d)
  go_enter Try.func122, Try.ntmps122
  go_upto_region 1 with (fail)
  generalize W.alloc (.cells (UEV e A c B d) 112) = w1 at *
  have hH1 := hH.below hB1
  obtain ⟨-, -, -, c5⟩ := uev_cells r1
  have hl1 := r1.lt
  go_wp2_with (first | ((with_reducible refine wp_load_g ?_ r1.range Try.underlying112 rfl (uev_info _ _ _ _ _) ?_ ?_); rfl; rfl) | (go_at_call 74; (with_reducible refine (validU e A B c d _ hH1).mono ?_); rintro en w2 ⟨rfl, hb2⟩; rw [HV.out]; have c5 := (hb2.cell (p := ⟨W.heap.size, 5, none⟩) hl1).trans c5))
  go_ret
  exact cku_mk HE.out (hB1.trans (hb2.mono hB1.size))
set_option maxRecDepth 100000 in
set_option maxHeartbeats 8000000 in
theorem chk_dead (e : UE) (A B : Option Addr) (c d : Nat) (W : World) (hH : HeldU W e A c B d) (hv : uV e = true) (hd : e.dd = true) : Calls Try.prog 122 #[.agg (UEV e A c B d)] W (CkU e W) := by
  have HE := Lib.hid (show uE e = 16 by unfold uE; rw [hv, hd]; rfl)
  have HV := Lib.hid hv
  clear hv
  have hB1 := (Below.refl W.heap.size W).alloc (Nat.le_refl _) (.cells (UEV e A c B d) 112)
  have r1 := Row.born W 112 (UEV e A c B d)
  go_enter Try.func122, Try.ntmps122
  go_upto_region 1 with (fail)
  generalize W.alloc (.cells (UEV e A c B d) 112) = w1 at *
  have hH1 := hH.below hB1
  obtain ⟨-, -, -, c5⟩ := uev_cells r1
  rw [hd] at c5
  clear hd
  have hl1 := r1.lt
  go_wp2_with (first | ((with_reducible refine wp_load_g ?_ r1.range Try.underlying112 rfl (uev_info _ _ _ _ _) ?_ ?_); rfl; rfl) | (go_at_call 74; (with_reducible refine (validU e A B c d _ hH1).mono ?_); rintro en w2 ⟨rfl, hb2⟩; rw [HV.out]; have c5 := (hb2.cell (p := ⟨W.heap.size, 5, none⟩) hl1).trans c5))
  go_ret
  exact cku_mk HE.out (hB1.trans (hb2.mono hB1.size))
set_option maxRecDepth 100000 in
set_option maxHeartbeats 8000000 in
theorem chk_ok (e : UE) (A B : Option Addr) (c d : Nat) (W : World) (hH : HeldU W e A c B d) (hv : uV e = true) (hd : e.dd = false) : Calls Try.prog 122 #[.agg (UEV e A c B d)] W (CkU e W) := by
  have HE := Lib.hid (show uE e = 0 by unfold uE; rw [hv, hd]; rfl)
  have HV := Lib.hid hv
  clear hv
  have hB1 := (Below.refl W.heap.size W).alloc (Nat.le_refl _) (.cells (UEV e A c B d) 112)
  have r1 := Row.born W 112 (UEV e A c B d)
  go_enter Try.func122, Try.ntmps122
  go_upto_region 1 with (fail)
  generalize W.alloc (.cells (UEV e A c B d) 112) = w1 at *
  have hH1 := hH.below hB1
  obtain ⟨-, -, -, c5⟩ := uev_cells r1
  rw [hd] at c5
  clear hd
  have hl1 := r1.lt
  go_wp2_with (first | ((with_reducible refine wp_load_g ?_ r1.range Try.underlying112 rfl (uev_info _ _ _ _ _) ?_ ?_); rfl; rfl) | (go_at_call 74; (with_reducible refine (validU e A B c d _ hH1).mono ?_); rintro en w2 ⟨rfl, hb2⟩; rw [HV.out]; have c5 := (hb2.cell (p := ⟨W.heap.size, 5, none⟩) hl1).trans c5))
  go_ret
  exact cku_mk HE.out (hB1.trans (hb2.mono hB1.size))
theorem checkU (e : UE) (A B : Option Addr) (c d : Nat) (W : World) (hH : HeldU W e A c B d) : Calls Try.prog 122 #[.agg (UEV e A c B d)] W (CkU e W) := by
  cases hv : uV e
  · exact chk_no e A B c d W hH hv
  cases hd : e.dd
  · exact chk_ok e A B c d W hH hv hd
  · exact chk_dead e A B c d W hH hv hd
theorem check_is {e : UE} {A B : Option Addr} {c d : Nat} {W : World} {x : Int} (hx : uE e = x) (hH : HeldU W e A c B d) : Calls Try.prog 122 #[.agg (UEV e A c B d)] W (fun en W' => en = .returned (.int .i64 x) ∧ Below W.heap.size W W') := (checkU e A B c d W hH).mono fun en W' h => by rw [← hx]; exact h
def ClS (W : World) (e : UE) (A : Option Addr) (c : Nat) (B : Option Addr) (d : Nat) (k : Nat) (us : Nat → Value) (w : World) : Prop :=
  Below W.heap.size W w ∧ Row w (W.heap.size + 1) 112 ZU ∧ ∃ A1 c1 B1 d1 X, Row w W.heap.size 112 X ∧ (k ≤ 2 → X = UEV e A c B d) ∧ (k = 3 → X = UEV e A1 c1 B d) ∧ (4 ≤ k → X = UEV e A1 c1 B1 d1) ∧
    (1 ≤ k → us 2 = .slice A1 e.cs.length c1 ∧ OwnN w W.heap.size 3 A1 e.cs.length c1 e.cs) ∧ (2 ≤ k → us 5 = .slice B1 e.ss.length d1 ∧ OwnN w W.heap.size 3 B1 e.ss.length d1 e.ss ∧ Ap A1 B1)
theorem ClS.loc {W : World} {e : UE} {A B : Option Addr} {c d : Nat} {ops : Array Oper} : ∀ k us us' w, (∀ i, mayAt ops [2, 5, 7, 9] k i = false ∨ i ∈ [2, 5, 7, 9].take k → us i = us' i) → ClS W e A c B d k us w → ClS W e A c B d k us' w := by
  intro k us us' w hk ⟨h1, h2, A1, c1, B1, d1, X, r, x1, x2, x3, h3, h4⟩
  refine ⟨h1, h2, A1, c1, B1, d1, X, r, x1, x2, x3, fun h => ?_, fun h => ?_⟩
  · rw [← hk 2 (.inr (by obtain ⟨j, rfl⟩ : ∃ j, k = j + 1 := ⟨k - 1, by omega⟩; exact List.mem_cons_self))]
    exact h3 h
  · rw [← hk 5 (.inr (by obtain ⟨j, rfl⟩ : ∃ j, k = j + 2 := ⟨k - 2, by omega⟩; exact List.mem_cons_of_mem _ List.mem_cons_self))]
    exact h4 h
def CloU (e : UE) (W : World) (en : Ending) (W' : World) : Prop := ∃ A c B d, en = .returned (.agg (UEV e A c B d)) ∧ OwnU W' W.heap.size e A c B d ∧ Below W.heap.size W W'
theorem OwnN.ap {w w' : World} {base b2 : Nat} {e : TypeId} {A B : Option Addr} {n m c d : Nat} {l k : List Int} (h : OwnN w base e A n c l) (h2 : OwnN w' w.heap.size e B m d k) : Ap A B := by
  intro a b ha hb
  subst ha hb
  have h3 := (World.ownsRow.lt h a.block rfl).2
  have h4 := (World.ownsRow.lt h2 b.block rfl).1
  omega
theorem HeldU.below0 {W w : World} {e : UE} {A B : Option Addr} {c d : Nat} (h : HeldU W e A c B d) (hb : Below W.heap.size W w) : HeldU w e A c B d := h.below hb
set_option maxRecDepth 100000 in
set_option maxHeartbeats 8000000 in
theorem cloneU (e : UE) (A B : Option Addr) (c d : Nat) (W : World) (hH : HeldU W e A c B d) : Calls Try.prog 123 #[.agg (UEV e A c B d)] W (CloU e W) := by
  have hal := hH.al
  have hbl := hH.bl
  have hB1 := ((Below.refl W.heap.size W).alloc (Nat.le_refl _) (.cells (UEV e A c B d) 112)).alloc (by simp) (.cells ZU 112)
  have r1 := (Row.born W 112 (UEV e A c B d)).alloc (.cells ZU 112)
  have r2 : Row ((W.alloc (.cells (UEV e A c B d) 112)).alloc (.cells ZU 112)) (W.heap.size + 1) 112 ZU := by
    have h := Row.born (W.alloc (.cells (UEV e A c B d) 112)) 112 ZU
    have e1 : (W.alloc (.cells (UEV e A c B d) 112)).heap.size = W.heap.size + 1 := by simp
    rwa [e1] at h
  go_enter Try.func123, Try.ntmps123
  go_upto_region 1 with (fail)
  change Code.wp _ _ _ _ ((W.alloc (.cells (UEV e A c B d) 112)).alloc (.cells ZU 112))
  generalize (W.alloc (.cells (UEV e A c B d) 112)).alloc (.cells ZU 112) = w1 at *
  refine wp_region_late (n := 12) [2, 5, 7, 9] (ClS W e A c B d) (fun _ _ => True) (by kernel_rfl) (by kernel_rfl) (by rfl) ClS.loc ⟨hB1.drew, r2.drew, none, 0, none, 0, _, r1.drew, fun _ => rfl, fun h => by omega, fun h => by omega, fun h => by omega, fun h => by omega⟩ ?_
  refine late_pure (by simp) (fun w => trivial) (v := ?_) (fun _ => rfl) ?_ ?_; rotate_left; (focus (intro c9 us w9 hm9 hS9 hF; clear hF hm9 hS9; go_simp; (try with_reducible rfl); done)); simp only [Act.put, zA, zB, zC, Nat.reduceAdd]
  refine late_pure (by simp) (fun w => trivial) (v := .slice A e.cs.length c) (fun _ => rfl) ?_ ?_; (focus (intro c9 us w9 hm9 hS9 hF; have hc9 : c9 < 1 := (by rcases Nat.lt_or_ge c9 1 with h9 | h9; exact h9; exact absurd hm9 (by rw [mayAt_no (d := 0) (by kernel_rfl) (by omega) (by decide)]; decide)); obtain ⟨-, -, A1, c1, B1, d1, X, r9, hx, -, -, -, -⟩ := hS9; obtain rfl := hx (by omega); have q9 : w9.cell? ⟨W.heap.size, 3, none⟩ = some (.slice A e.cs.length c) := r9.cell 3; clear r9 hx; clear hF hm9; go_simp; (try with_reducible rfl); done)); simp only [Act.put, zA, zB, zC, Nat.reduceAdd]
  refine late_chain (by simp) ?_ ?_; (focus (intro us w9 hS9 hF K hK; clear hF; obtain ⟨hb9, rz, A1, c1, B1, d1, X, r9, hx, -, -, -, -⟩ := hS9; go_simp; refine (clone_n A _ _ e.cs w9 ((hH.below0 hb9).a) (by omega)).mono ?_; rintro en w' ⟨A', c', rfl, ho, hb⟩; exact hK _ w' ⟨hb9.trans (hb.mono hb9.size), rz.below hb rz.lt, A', c', none, 0, X, r9.below hb r9.lt, fun _ => hx (by omega), fun h => by omega, fun h => by omega, fun _ => ⟨rfl, ho.lower hb9.size⟩, fun h => by omega⟩ trivial)); simp only [Act.put, zA, zB, zC, Nat.reduceAdd]
  refine late_pure (by simp) (fun w => trivial) (v := ?_) (fun _ => rfl) ?_ ?_; rotate_left; (focus (intro c9 us w9 hm9 hS9 hF; clear hF hm9 hS9; go_simp; (try with_reducible rfl); done)); simp only [Act.put, zA, zB, zC, Nat.reduceAdd]
  refine late_pure (by simp) (fun w => trivial) (v := .slice B e.ss.length d) (fun _ => rfl) ?_ ?_; (focus (intro c9 us w9 hm9 hS9 hF; have hc9 : c9 < 2 := (by rcases Nat.lt_or_ge c9 2 with h9 | h9; exact h9; exact absurd hm9 (by rw [mayAt_no (d := 1) (by kernel_rfl) (by omega) (by decide)]; decide)); obtain ⟨-, -, A1, c1, B1, d1, X, r9, hx, -, -, -, -⟩ := hS9; obtain rfl := hx (by omega); have q9 : w9.cell? ⟨W.heap.size, 4, none⟩ = some (.slice B e.ss.length d) := r9.cell 4; clear r9 hx; clear hF hm9; go_simp; (try with_reducible rfl); done)); simp only [Act.put, zA, zB, zC, Nat.reduceAdd]
  refine late_chain (by simp) ?_ ?_; (focus (intro us w9 hS9 hF K hK; clear hF; obtain ⟨hb9, rz, A1, c1, B1, d1, X, r9, hx, -, -, h8, -⟩ := hS9; obtain ⟨hu2, h3⟩ := h8 (by omega); have HU2 := Lib.hid hu2; clear hu2 h8; go_simp; refine (clone_n B _ _ e.ss w9 ((hH.below0 hb9).b) (by omega)).mono ?_; rintro en w' ⟨B', d', rfl, ho, hb⟩; exact hK _ w' ⟨hb9.trans (hb.mono hb9.size), rz.below hb rz.lt, A1, c1, B', d', X, r9.below hb r9.lt, fun _ => hx (by omega), fun h => by omega, fun h => by omega, fun _ => ⟨HU2.out, h3.below hb⟩, fun _ => ⟨rfl, ho.lower hb9.size, OwnN.ap (b2 := 0) h3 ho⟩⟩ trivial)); simp only [Act.put, zA, zB, zC, Nat.reduceAdd]
  refine late_pure (by simp) (fun w => trivial) (v := ?_) (fun _ => rfl) ?_ ?_; rotate_left; (focus (intro c9 us w9 hm9 hS9 hF; clear hF hm9 hS9; go_simp; (try with_reducible rfl); done)); simp only [Act.put, zA, zB, zC, Nat.reduceAdd]
  refine late_store rfl ?_ ?_; (focus (intro us w9 hS9 hF K hK; clear hF; obtain ⟨hb9, rz, A1, c1, B1, d1, X, r9, hx, -, -, h3, h4⟩ := hS9; obtain rfl := hx (by omega); obtain ⟨hu2, h3⟩ := h3 (by omega); obtain ⟨hu5, h4, hap⟩ := h4 (by omega); simp only [hu2, hu5] at hK ⊢; rw [if_pos (by rfl)]; have q3 : w9.cell? ⟨W.heap.size, 3, none⟩ = some (.slice A e.cs.length c) := r9.cell 3; have f3 := r9.frozen 3; go_simp; have u3 := Upd.setCell w9 W.heap.size 3 (.slice A1 e.cs.length c1); have r3 := r9.set 3 (.slice A1 e.cs.length c1); have e3 : (UEV e A c B d).setIfInBounds 3 (.slice A1 e.cs.length c1) = UEV e A1 c1 B d := (by simp [UEV]); rw [e3] at r3; have kp := Keeps.upd (ts := [112]) u3 r9 (by simp); exact hK _ ⟨Upd.below hb9 u3 (Nat.le_refl _), rz.upd u3 (by omega), A1, c1, B1, d1, _, r3, fun h => by omega, fun _ => rfl, fun h => by omega, fun _ => ⟨hu2, h3.keeps kp (by decide)⟩, fun _ => ⟨hu5, h4.keeps kp (by decide), hap⟩⟩ trivial)); (try simp only [Nat.reduceAdd])
  refine late_pure (by simp) (fun w => trivial) (v := ?_) (fun _ => rfl) ?_ ?_; rotate_left; (focus (intro c9 us w9 hm9 hS9 hF; clear hF hm9 hS9; go_simp; (try with_reducible rfl); done)); simp only [Act.put, zA, zB, zC, Nat.reduceAdd]
  refine late_store rfl ?_ ?_; (focus (intro us w9 hS9 hF K hK; clear hF; obtain ⟨hb9, rz, A1, c1, B1, d1, X, r9, -, hx, -, h3, h4⟩ := hS9; obtain rfl := hx rfl; obtain ⟨hu2, h3⟩ := h3 (by omega); obtain ⟨hu5, h4, hap⟩ := h4 (by omega); simp only [hu2, hu5] at hK ⊢; rw [if_pos (by rfl)]; have q3 : w9.cell? ⟨W.heap.size, 4, none⟩ = some (.slice B e.ss.length d) := r9.cell 4; have f3 := r9.frozen 4; go_simp; have u3 := Upd.setCell w9 W.heap.size 4 (.slice B1 e.ss.length d1); have r3 := r9.set 4 (.slice B1 e.ss.length d1); have e3 : (UEV e A1 c1 B d).setIfInBounds 4 (.slice B1 e.ss.length d1) = UEV e A1 c1 B1 d1 := (by simp [UEV]); rw [e3] at r3; have kp := Keeps.upd (ts := [112]) u3 r9 (by simp); exact hK _ ⟨Upd.below hb9 u3 (Nat.le_refl _), rz.upd u3 (by omega), A1, c1, B1, d1, _, r3, fun h => by omega, fun h => by omega, fun _ => rfl, fun _ => ⟨hu2, h3.keeps kp (by decide)⟩, fun _ => ⟨hu5, h4.keeps kp (by decide), hap⟩⟩ trivial)); (try simp only [Nat.reduceAdd])
  refine late_done fun us w8 hS8 hF => ?_
  obtain ⟨hb8, rz, A1, c1, B1, d1, X, r8, -, -, hx, h3, h4⟩ := hS8
  obtain rfl := hx (by omega)
  obtain ⟨-, h3⟩ := h3 (by omega)
  obtain ⟨-, h4, hap⟩ := h4 (by omega)
  have ho := OwnU.mk h3 h4 hap
  clear hF h3 h4 hx
  go_wp2_with (first | ((with_reducible refine wp_load_g ?_ r8.range Try.underlying112 rfl (uev_info _ _ _ _ _) ?_ ?_); rfl; rfl) | ((with_reducible refine wp_row_store (L := UEV e A1 c1 B1 d1) rz rfl (uev_info _ _ _ _ _) (uev_one _ _ _ _ _) ?_ ?_ ?_); rfl; rfl; intro w9 u9 r9))
  refine bodyPost_ret (results_cell_row rfl _ _ _ _ _ _ _ rfl r9 Try.underlying112 rfl (uev_info _ _ _ _ _)) rfl ?_
  exact ⟨A1, c1, B1, d1, rfl, ho.keeps (Keeps.upd (ts := [112]) u9 rz (by simp)) (by decide), Upd.below hb8 u9 (by omega)⟩
end
end Go.Proofs.Ythjkhambmgepdaa
