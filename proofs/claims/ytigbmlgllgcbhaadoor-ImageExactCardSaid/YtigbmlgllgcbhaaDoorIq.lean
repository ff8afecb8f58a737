/- Image, in plain words: the modules that a law builds from numbers. -/
import Derived.Test.YtigbmlgllgcbhaaDoorIr
namespace Go.Proofs.YtigbmlgllgcbhaaDoor
open Go.RowKit
set_option linter.unusedVariables false
set_option linter.unusedSimpArgs false
theorem fstG_snoc : ∀ (r pre : List Md) (m : Md), fstG pre r = 0 → fstG pre (r ++ [m]) = chkE m (pre ++ r)
  | [], pre, m, _ => by
    show (if chkE m pre = 0 then 0 else chkE m pre) = chkE m (pre ++ [])
    rw [List.append_nil]
    split
    · next h => rw [h]
    · rfl
  | x :: r, pre, m, h0 => by
    have h1 : (if chkE x pre = 0 then fstG (pre ++ [x]) r else chkE x pre) = 0 := h0
    show (if chkE x pre = 0 then fstG (pre ++ [x]) (r ++ [m]) else chkE x pre) = _
    by_cases hc : chkE x pre = 0
    · rw [if_pos hc] at h1 ⊢
      rw [fstG_snoc r _ m h1]
      simp
    · rw [if_neg hc] at h1
      exact absurd h1 hc
def nmAbc (nm : List UInt8) : Prop := nm = [97, 98, 99] ∨ nm = [98, 99] ∨ nm = [99]
structure GoodMs (ms : List Md) : Prop where
  (len : ms.length ≤ 6) (fst : fstE ms = 0) (dat : ∀ m ∈ ms, m.data.length ≤ 130) (nam : ∀ m ∈ ms, nmAbc m.name)
theorem GoodMs.nil : GoodMs [] := ⟨by simp, rfl, by simp, by simp⟩
theorem GoodMs.snoc {ms : List Md} {m : Md} (h : GoodMs ms) (hl : ms.length < 6) (hc : chkE m ms = 0) (hd : m.data.length ≤ 130) (hn : nmAbc m.name) : GoodMs (ms ++ [m]) := by
  refine ⟨by simp; omega, ?_, fun x hx => ?_, fun x hx => ?_⟩
  · have := fstG_snoc ms [] m h.fst
    rw [List.nil_append, hc] at this
    exact this
  · rcases List.mem_append.mp hx with hx | hx
    · exact h.dat x hx
    · rw [List.mem_singleton.mp hx]; exact hd
  · rcases List.mem_append.mp hx with hx | hx
    · exact h.nam x hx
    · rw [List.mem_singleton.mp hx]; exact hn
theorem fin_le2 : ∀ (ms : List Md) (e : Nat), (∀ m ∈ ms, m.data.length ≤ 130) → imFin e ms ≤ e + ms.length * 194
  | [], e, _ => by simp [imFin]
  | m :: r, e, h => by
    have h1 := fin_le2 r (up64 e + m.data.length) (fun x hx => h x (by simp [hx]))
    have h2 := up64_lt e
    have h3 := h m (by simp)
    show imFin (up64 e + m.data.length) r ≤ _
    rw [List.length_cons]
    omega
theorem GoodMs.size {ms : List Md} (h : GoodMs ms) : imSize ms ≤ 1600 := by
  have h1 := fin_le2 ms (16 + 48 * ms.length) h.dat
  have h2 := h.len
  have h3 := up64_lt (imFin (16 + 48 * ms.length) ms)
  unfold imSize
  omega
theorem GoodMs.bld {ms : List Md} (h : GoodMs ms) : bldE ms = 0 := by
  unfold bldE
  have h1 := h.size
  rw [if_neg (by have := h.len; omega), if_neg (by rw [h.fst]; simp), if_neg (by omega)]
theorem GoodMs.names {ms : List Md} (h : GoodMs ms) : ∀ m ∈ ms, m.name.length ≤ 24 := bld_names h.bld
theorem GoodMs.chk {ms : List Md} (h : GoodMs ms) (k : Nat) (hk : k < ms.length) : chkE ms[k] (ms.take k) = 0 := fstG_all ms [] h.fst k hk
/-- Each is found by its name and its width. -/
theorem GoodMs.found {ms : List Md} (h : GoodMs ms) (k : Nat) (hk : k < ms.length) : fndB ms ms[k].name ms[k].width = true ∧ fndK ms ms[k].name ms[k].width = k := by
  refine fnd_at hk (fun i hi hik => ?_) (by simp [mdIs])
  have h1 := (chk_all (h.chk k hk)).2.2.2.2.2.2
  unfold fndB at h1
  rw [List.any_eq_false] at h1
  have h2 := h1 ms[i] (List.mem_iff_getElem.mpr ⟨i, by rw [List.length_take]; omega, by simp⟩)
  simpa using h2
theorem GoodMs.absent {ms : List Md} (h : GoodMs ms) {nm : List UInt8} (hn : ¬ nmAbc nm) (wd : Int) : fndB ms nm wd = false ∧ fndK ms nm wd = 0 := by
  refine fnd_no fun i hi => ?_
  have h1 := h.nam ms[i] (List.getElem_mem hi)
  unfold mdIs
  rw [Bool.and_eq_false_iff]
  left
  rw [beq_eq_false_iff_ne]
  intro h2
  exact hn (h2 ▸ h1)
end Go.Proofs.YtigbmlgllgcbhaaDoor
