/- Image: Build's closure. -/
import Derived.Test.YtigbmlgllgcbhaaDoorIc
import Derived.Test.YtigbmlgllgcbhaaDoorUint
import Derived.Lib.ConvBytes
namespace Go.Proofs.YtigbmlgllgcbhaaDoor
open Go.RowKit
set_option linter.unusedVariables false
set_option linter.unusedSimpArgs false
set_option maxRecDepth 100000 in
set_option maxHeartbeats 8000000 in
theorem put27 (k : Nat) (B : Option Addr) (m c : Nat) (bs out : List UInt8) (gv go : Nat) (W : World) (hv : Row W gv 23 #[.slice (some ⟨go, 0, none⟩) out.length out.length]) (ho : Row W go 5 (out.map bv).toArray) (hb : IsB W B m bs) (hk : k + bs.length ≤ out.length) (hl : out.length ≤ 100000000) :
    Calls Tryd.prog 27 #[.int .i64 k, .slice B m c, .pointer (some ⟨gv, 0, none⟩)] W (fun en W' => en = .returned (.tuple #[]) ∧ Row W' go 5 ((ovr out k bs).map bv).toArray ∧ Upd W W' go) := by
  have hm := hb.1
  have p0 : W.cell? ⟨gv, 0, none⟩ = some (.slice (some ⟨go, 0, none⟩) out.length out.length) := hv.cell 0
  have hki : (k : Int) ≤ (out.length : Int) := by omega
  have hk0 : (0 : Int) ≤ (k : Int) := by omega
  have g1 : (bs.map bv).length = Nat.min m (out.length - k) := by rw [List.length_map, hm]; exact (Nat.min_eq_left (by omega)).symm
  have g3 : k + (bs.map bv).length ≤ (out.map bv).length := by simp; omega
  have hfin : ((ovr out k bs).map bv).toArray = ((out.map bv).take k ++ (bs.map bv ++ (out.map bv).drop (k + (bs.map bv).length))).toArray := by simp [ovr, List.map_take, List.map_drop]
  have HF := Lib.hid hfin
  have G1 := Lib.hid g1
  clear g1 hfin
  rcases Nat.lt_or_ge k out.length with hk1 | hk1
  · have hne : (out.length - k = 0) = False := by simp; omega
    have g2 : CopyOk W (some ⟨go, k, none⟩) go k B (bs.map bv) := fun h => ⟨rfl, hb.src (by simp at h; omega)⟩
    clear hm
    go_enter Tryd.func27, Tryd.ntmps27
    go_wp2_with ((with_reducible refine wp_row_copy (off := k) (dCap := out.length - k) (sCap := c) ho Tryd.underlying23 info_u8s G1.out g2 g3 (bv_one bs) ?_ ?_ ?_); rfl; rfl; intro w2 u2 r2)
    go_end0
    exact ⟨rfl, by rw [HF.out]; exact r2, u2⟩
  · have G2 := Lib.hid (show (([] : List UInt8).map bv).length = Nat.min 0 0 from rfl)
    have hke : k = out.length := by omega
    have hb0 : bs = [] := List.eq_nil_of_length_eq_zero (by omega)
    subst hb0
    subst hke
    simp only [List.length_nil] at hm
    subst hm
    have g2 : CopyOk W (some ⟨go, 0, none⟩) go out.length B (([] : List UInt8).map bv) := fun h => by simp at h
    go_enter Tryd.func27, Tryd.ntmps27
    go_wp2_with ((with_reducible refine wp_row_copy (off := out.length) (dLen := 0) (dCap := 0) (sCap := c) ho Tryd.underlying23 info_u8s G2.out g2 g3 (bv_one []) ?_ ?_ ?_); rfl; rfl; intro w2 u2 r2)
    go_end0
    exact ⟨rfl, by rw [HF.out]; exact r2, u2⟩
theorem put_at {x : Int} {k : Nat} (hx : x = k) (B : Option Addr) (m c : Nat) (bs out : List UInt8) (gv go sz : Nat) (W : World) (hs : out.length = sz) (hv : Row W gv 23 #[.slice (some ⟨go, 0, none⟩) sz sz]) (ho : Row W go 5 (out.map bv).toArray) (hb : IsB W B m bs) (hk : k + bs.length ≤ sz) (hl : sz ≤ 100000000) :
    Calls Tryd.prog 27 #[.int .i64 x, .slice B m c, .pointer (some ⟨gv, 0, none⟩)] W (fun en W' => en = .returned (.tuple #[]) ∧ Row W' go 5 ((ovr out k bs).map bv).toArray ∧ Upd W W' go ∧ (ovr out k bs).length = out.length) := by
  subst hx hs
  exact (put27 k B m c bs out gv go W hv ho hb hk hl).mono fun en W' ⟨h1, h2, h3⟩ => ⟨h1, h2, h3, ovr_len hk⟩
/-- A string's bytes in a new slice. -/
theorem conv_bytes (w : World) (bs : List UInt8) : ∃ c w', (convert 9 23 (.string (sv bs))).run Tryd.prog w = .ok (.slice (some ⟨w.heap.size, 0, none⟩) bs.length c) w' ∧ IsB w' (some ⟨w.heap.size, 0, none⟩) bs.length bs ∧ Below w.heap.size w w' := by
  have h := Go.Lib.run_convert_string_bytes (P := Tryd.prog) w 9 23 5 (sv bs) Tryd.underlying9 Tryd.underlying23 Tryd.underlying5
  rw [sv_size] at h
  refine ⟨_, _, h, ⟨rfl, fun _ => ⟨w.heap.size, 0, rfl, fun i hi => ?_⟩⟩, ?_⟩
  · have h2 := Go.Lib.bytesWorld_cell w 5 (sv bs) i (by rw [sv_size]; exact hi)
    rw [Nat.zero_add, h2]
    simp [sv, hi]
  · exact ⟨rfl, rfl, rfl, by rw [Go.Lib.bytesWorld_size]; omega, fun k hk => Go.Lib.bytesWorld_at_old w 5 (sv bs) k hk⟩
end Go.Proofs.YtigbmlgllgcbhaaDoor
