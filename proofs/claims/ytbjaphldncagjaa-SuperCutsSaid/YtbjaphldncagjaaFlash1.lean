/- flash: the small functions. -/
import Derived.Test.YtbjaphldncagjaaFlashMem
namespace Go.Proofs.Ytbjaphldncagjaa
open Go.RowKit

set_option maxHeartbeats 400000 in
theorem check_any (w : World) (B g : Nat) (F : Nat → Prop) (d : Dv) (k : Int) (h : Dev w B F g d) :
    Calls Try.prog 123 #[.pointer (some ⟨g, 0, none⟩), .int .i64 k] w (Ret (.int .i64 (d.chk k)) w) := by
  obtain ⟨hf, sv, uv, S, hg, hs, hu, hg1, hs1, hu1, hS, hF⟩ := h
  obtain ⟨A, c, rfl, _, hlc, hcm⟩ := hs.form
  have c0 : w.cell? ⟨g, 0, none⟩ = some (.slice A d.sure.length c) := (cell_of_row _ _ _ _ _ _ hg).trans rfl
  have c3 : w.cell? ⟨g, 3, none⟩ = some (.bool d.down) := (cell_of_row _ _ _ _ _ _ hg).trans rfl
  clear hg hs hu hg1 hs1 hu1 hS hF hf
  rcases d.chk_cases k with ⟨h1, h2⟩ | ⟨h1, h3, h2⟩ | ⟨h1, h3, h4, h2⟩
  · rw [h2]
    rw [h1] at c3
    clear h1 h2
    go_enter Try.func123, Try.ntmps123
    go_wp2
    go_ret
    exact ⟨rfl, rfl⟩
  · rw [h2]
    rw [h1] at c3
    clear h1 h2
    by_cases h0 : k < 0
    · clear h3
      go_enter Try.func123, Try.ntmps123
      go_wp2
      go_ret
      exact ⟨rfl, rfl⟩
    · have h5 : (d.sure.length : Int) ≤ k := by omega
      clear h3
      go_enter Try.func123, Try.ntmps123
      go_wp2
      go_ret
      exact ⟨rfl, rfl⟩
  · rw [h2]
    rw [h1] at c3
    clear h1 h2
    go_enter Try.func123, Try.ntmps123
    go_wp2
    go_ret
    exact ⟨rfl, rfl⟩

set_option maxHeartbeats 400000 in
theorem spend_any (w : World) (B g : Nat) (F : Nat → Prop) (d : Dv) (h : Dev w B F g d) :
    Calls Try.prog 122 #[.pointer (some ⟨g, 0, none⟩)] w (fun e w' => e = .returned (.bool d.stays) ∧ Dev w' B F g d.spent ∧ Chg (fun k => k = g) w w') := by
  obtain ⟨hf, sv, uv, S, hg, hs, hu, hg1, hs1, hu1, hS, hF⟩ := h
  have c2 : w.cell? ⟨g, 2, none⟩ = some (.int .i64 d.limit) := (cell_of_row _ _ _ _ _ _ hg).trans rfl
  have c3 : w.cell? ⟨g, 3, none⟩ = some (.bool d.down) := (cell_of_row _ _ _ _ _ _ hg).trans rfl
  have f2 : ∀ k, w.frozen? ⟨g, k, none⟩ = false := fun k => frozen_of_row _ _ _ _ _ hg
  have hl0 := hf.limit.1
  have hl1 := hf.limit.2
  by_cases h0 : d.limit = 0
  · have e1 : d.stays = true := by unfold Dv.stays; rw [if_pos h0]
    have e2 : d.spent = d := by unfold Dv.spent; rw [if_pos h0]
    rw [e1, e2]
    have h0' : (d.limit == 0) = true := by rw [beq_iff_eq]; exact h0
    have HD : Hid (Dev w B F g d) := ⟨hf, sv, uv, S, hg, hs, hu, hg1, hs1, hu1, hS, hF⟩
    clear hg hs hu hg1 hs1 hu1 hS hF hf e1 e2 h0
    go_enter Try.func122, Try.ntmps122
    go_wp2
    go_ret
    exact ⟨rfl, HD.out, Chg.refl _ _⟩
  · have e1 : Hid (d.stays = decide (d.limit ≠ 1)) := by show _ = _; unfold Dv.stays; rw [if_neg h0]
    have e2 : Hid (d.spent = { d with limit := d.limit - 1, down := decide (d.limit = 1) }) := by show _ = _; unfold Dv.spent; rw [if_neg h0]
    have hfs := hf.spent
    have h0' : (d.limit == 0) = false := by rw [beq_eq_false_iff_ne]; exact h0
    have hge : 1 ≤ d.limit := by omega
    have HG := Lib.hid hg
    have e3 : Hid ((d.limit - 1 == 0) = decide (d.limit = 1)) := by
      show _ = _
      rw [Bool.eq_iff_iff, beq_iff_eq, decide_eq_true_iff]
      omega
    clear hg h0
    go_enter Try.func122, Try.ntmps122
    go_wp2
    go_ret
    have hu2 : d.spent.unsure = d.unsure := Dv.spent_unsure
    have hs2 : d.spent.sure = d.sure := Dv.spent_sure
    refine ⟨ret_bool ?_, Dev.own_cells (sv := sv) (uv := uv) (S := S) hfs ?_ (chg_g2 w g 2 3 _ _) (by rw [hs2]; exact hs) (by rw [hu2]; exact hu) hg1 hs1 hu1 hS hF, chg_g2 w g 2 3 _ _⟩
    · rw [e1.out, e3.out]
      by_cases h : d.limit = 1 <;> simp [h]
    · rw [e2.out]
      refine (heap_setCell_same _ _ _ _ _ _ (heap_setCell_same _ _ _ _ _ _ HG.out)).trans ?_
      rw [e3.out]
      rfl

set_option maxHeartbeats 400000 in
theorem down_any (w : World) (B g : Nat) (F : Nat → Prop) (d : Dv) (h : Dev w B F g d) :
    Calls Try.prog 69 #[.pointer (some ⟨g, 0, none⟩)] w (Ret (.bool d.down) w) := by
  obtain ⟨hf, sv, uv, S, hg, hs, hu, hg1, hs1, hu1, hS, hF⟩ := h
  have c3 : w.cell? ⟨g, 3, none⟩ = some (.bool d.down) := (cell_of_row _ _ _ _ _ _ hg).trans rfl
  clear hg hs hu hg1 hs1 hu1 hS hF hf
  go_enter Try.func69, Try.ntmps69
  go_wp2
  go_ret
  exact ⟨rfl, rfl⟩

set_option maxHeartbeats 400000 in
theorem len_any (w : World) (B g : Nat) (F : Nat → Prop) (d : Dv) (h : Dev w B F g d) :
    Calls Try.prog 68 #[.pointer (some ⟨g, 0, none⟩)] w (Ret (.int .i64 (d.sure.length : Int)) w) := by
  obtain ⟨hf, sv, uv, S, hg, hs, hu, hg1, hs1, hu1, hS, hF⟩ := h
  obtain ⟨A, c, rfl, _, hlc, hcm⟩ := hs.form
  have c0 : w.cell? ⟨g, 0, none⟩ = some (.slice A d.sure.length c) := (cell_of_row _ _ _ _ _ _ hg).trans rfl
  clear hg hs hu hg1 hs1 hu1 hS hF hf
  go_enter Try.func68, Try.ntmps68
  go_wp2
  go_ret
  exact ⟨rfl, rfl⟩

set_option maxHeartbeats 400000 in
theorem limit_any (w : World) (B g : Nat) (F : Nat → Prop) (d : Dv) (n : Int) (h : Dev w B F g d) (hn : 0 ≤ n) (hn2 : n ≤ 9223372036854775807) :
    Calls Try.prog 29 #[.pointer (some ⟨g, 0, none⟩), .int .i64 n] w (fun e w' => e = .returned (.int .i64 0) ∧ Dev w' B F g { d with limit := n } ∧ Chg (fun k => k = g) w w') := by
  obtain ⟨hf, sv, uv, S, hg, hs, hu, hg1, hs1, hu1, hS, hF⟩ := h
  have c2 : w.cell? ⟨g, 2, none⟩ = some (.int .i64 d.limit) := (cell_of_row _ _ _ _ _ _ hg).trans rfl
  have f2 : ∀ k, w.frozen? ⟨g, k, none⟩ = false := fun k => frozen_of_row _ _ _ _ _ hg
  have HG := Lib.hid hg
  clear hg
  go_enter Try.func29, Try.ntmps29
  go_wp2
  go_ret
  exact ⟨rfl, Dev.own_cells (d' := { d with limit := n }) (sv := sv) (uv := uv) (S := S) ⟨hf.sure, hf.unsure, hf.size, hn, hn2⟩ ((heap_setCell_same _ _ _ _ _ _ HG.out).trans rfl) (chg_g1 w g 2 _) hs hu hg1 hs1 hu1 hS hF, chg_g1 w g 2 _⟩

set_option maxHeartbeats 400000 in
theorem limit_neg (w : World) (p : Option Addr) (n : Int) (hn : n < 0) :
    Calls Try.prog 29 #[.pointer p, .int .i64 n] w (Ret (.int .i64 1) w) := by
  rcases p with _ | a
  · go_enter Try.func29, Try.ntmps29
    go_wp2
    go_ret
    exact ⟨rfl, rfl⟩
  · go_enter Try.func29, Try.ntmps29
    go_wp2
    go_ret
    exact ⟨rfl, rfl⟩

def zsec : Array Value := (List.replicate 512 (Value.int .u8 0) ++ [Value.bool false]).toArray
theorem infoSec : (Try.prog.info? 177).map (fun i => (i.zero, i.size, i.bytes)) = some (some (.agg zsec), 513, 513) := by kernel_rfl
theorem zsec_size : zsec.size = 513 := by
  unfold zsec
  rw [List.size_toArray, List.length_append, List.length_replicate]
  rfl
set_option maxRecDepth 100000 in
theorem mkSec (n : Nat) (hn : n ≤ 4096) (w : World) :
    (Instr.makeSlice 126 (.int .i64 (n : Int)) (.int .i64 (n : Int))).run Try.prog w = .ok (.slice (some ⟨w.heap.size, 0, none⟩) n n) (w.alloc (.cells (madeCells zsec (n * 513)) 177)) := by
  obtain ⟨i0, hi, hz, hs, hb⟩ := info_parts infoSec
  have h := run_make (P := Try.prog) w 126 177 i0 _ Try.underlying126 hi hz .i64 .i64 n n (by omega) (by omega) (by rw [hb]; omega) (by omega)
  simp only [Int.toNat_natCast, hs] at h
  exact h
set_option maxRecDepth 100000 in
theorem made_sec (w : World) (n : Nat) (hn : n ≤ 4096) : OwnE encSec 177 noS (w.alloc (.cells (madeCells zsec (n * 513)) 177)) w.heap.size (.slice (some ⟨w.heap.size, 0, none⟩) n n) (List.replicate n (some zero512)) := by
  have h := World.ownsRow_lit (base := w.heap.size) (e := 177) (size := 513) w (madeCells zsec (n * 513)) n (Nat.le_refl _) (by simp only [maxLen]; omega) (size_madeCells _ _)
  refine ⟨(madeCells zsec (n * 513)).toList, by rw [List.length_replicate]; exact h, fun i x hx => ?_, fun b hb => hb.elim⟩
  obtain ⟨hi, rfl⟩ : i < n ∧ x = some zero512 := by
    rw [List.getElem?_replicate] at hx
    by_cases h : i < n
    · rw [if_pos h] at hx; injection hx with hx; exact ⟨h, hx.symm⟩
    · rw [if_neg h] at hx; cases hx
  have hi3 : (i + 1) * 513 ≤ n * 513 := Nat.mul_le_mul_right _ hi
  have hat : ∀ j, j < 513 → (((madeCells zsec (n * 513)).toList.drop (i * 513)).take 513)[j]? = some (zsec[j]!) := fun j hj => by
    rw [List.getElem?_take, if_pos hj, List.getElem?_drop, Array.getElem?_toList]
    have : i * 513 + j < (madeCells zsec (n * 513)).size := by rw [size_madeCells]; omega
    rw [Array.getElem?_eq_getElem this]
    simp only [madeCells, Array.getElem_map, Array.getElem_range]
    rw [zsec_size, show (i * 513 + j) % 513 = j by omega]
  have hz : ∀ j, j < 512 → zsec[j]! = .int .u8 0 := fun j hj => by
    have h : zsec[j]? = some (.int .u8 0) := by
      unfold zsec
      rw [List.getElem?_toArray, List.getElem?_append_left (by rw [List.length_replicate]; exact hj), List.getElem?_replicate, if_pos hj]
    rw [getElem!_def, h]
  refine ⟨?_, ?_, fun j hj => ⟨0, ?_⟩, fun b hb => ?_⟩
  · show (((madeCells zsec (n * 513)).toList.drop (i * 513)).take 513).length = 513
    rw [List.length_take, List.length_drop, Array.length_toList, size_madeCells]; omega
  · rw [show encSec.size = 513 from rfl, hat 512 (by omega)]
    rfl
  · rw [show encSec.size = 513 from rfl, hat j (by omega), hz j hj]
    rfl
  · injection hb with hb
    subst hb
    apply List.ext_getElem?
    intro j
    rw [List.getElem?_take]
    by_cases hj : j < 512
    · rw [if_pos hj, show encSec.size = 513 from rfl, hat j (by omega), hz j hj, List.getElem?_map]
      unfold zero512
      rw [List.getElem?_replicate, if_pos hj]
      rfl
    · rw [if_neg hj, List.getElem?_map]
      unfold zero512
      rw [List.getElem?_replicate, if_neg hj]
      rfl

set_option maxRecDepth 100000 in
set_option maxHeartbeats 400000 in
theorem new_any (w : World) (n : Nat) (h1 : 1 ≤ n) (h2 : n ≤ 4096) :
    Calls Try.prog 27 #[.int .i64 (n : Int)] w (fun e w' => ∃ g F, e = .returned (.tuple #[.pointer (some ⟨g, 0, none⟩), .int .i64 0]) ∧ Dev w' w.heap.size F g (Dv.new n) ∧ Below w.heap.size w w') := by
  have hmk := mkSec n h2 w
  go_enter Try.func27, Try.ntmps27
  go_wp2
  go_ret2
  refine ⟨w.heap.size + 1, fun k => w.heap.size ≤ k ∧ k < w.heap.size + 2, rfl, ⟨Dv.Fine.new h2, _, .slice none 0 0, noS, heap_alloc2_new w _ _, (made_sec w n h2).alloc _, OwnE.nil _ _ _ _, ⟨by omega, by omega⟩, fun k hk => ?_, fun k hk => by simp [Value.ownBlock] at hk, fun k hk => hk.elim, fun k hk => ⟨hk.1, by simp; omega⟩⟩, (bl.alloc (Nat.le_refl _) _).alloc (by simp) _⟩
  have e : w.heap.size = k := by injection hk
  subst e
  exact ⟨⟨Nat.le_refl _, Nat.lt_add_of_pos_right (by decide)⟩, Nat.ne_of_lt (Nat.lt_succ_self _)⟩

set_option maxHeartbeats 400000 in
theorem new_bad (w : World) (n : Int) (h : n < 1 ∨ 4096 < n) :
    Calls Try.prog 27 #[.int .i64 n] w (Ret (.tuple #[.pointer none, .int .i64 1]) w) := by
  by_cases h0 : n < 1
  · clear h
    go_enter Try.func27, Try.ntmps27
    go_wp2
    go_ret2
    exact ⟨rfl, rfl⟩
  · have h1 : 4096 < n := by omega
    clear h
    go_enter Try.func27, Try.ntmps27
    go_wp2
    go_ret2
    exact ⟨rfl, rfl⟩
end Go.Proofs.Ytbjaphldncagjaa
