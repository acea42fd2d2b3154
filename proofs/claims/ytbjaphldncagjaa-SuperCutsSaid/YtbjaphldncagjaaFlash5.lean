/- flash: Crash. -/
import Derived.Test.YtbjaphldncagjaaFlash4
namespace Go.Proofs.Ytbjaphldncagjaa
open Go.RowKit

theorem bit_one (t k : Nat) (ht : t < 18446744073709551616) : bits .and .u64 ((t : Int) / 2 ^ (k % 64)) 1 = if bitN t k = true then 1 else 0 := by
  have h1 : t / 2 ^ (k % 64) < 18446744073709551616 := Nat.lt_of_le_of_lt (Nat.div_le_self _ _) ht
  rw [show ((t : Int) / 2 ^ (k % 64)) = ((t / 2 ^ (k % 64) : Nat) : Int) by rw [Int.natCast_ediv, Int.natCast_pow]; rfl, show (1 : Int) = ((1 : Nat) : Int) from rfl, bits_and_u64_nat _ _ h1 (by decide), Nat.and_one_is_mod]
  unfold bitN
  rcases Nat.mod_two_eq_zero_or_one (t / 2 ^ (k % 64)) with h | h <;> rw [h] <;> rfl

set_option maxRecDepth 100000 in
set_option maxHeartbeats 2000000 in
theorem crash_any (w : World) (B g : Nat) (F : Nat → Prop) (d : Dv) (m t : Nat) (hm : m < 18446744073709551616) (ht : t < 18446744073709551616) (h : Dev w B F g d) (hun : d.unsure.length ≤ 1000000) :
    Calls Try.prog 30 #[.pointer (some ⟨g, 0, none⟩), .int .u64 (m : Int), .int .u64 (t : Int)] w (fun e w' => e = .returned (.int .i64 0) ∧ Dev w' B F g (d.crash m t) ∧ Chg F w w') := by
  have hfc := Lib.hid (h.fine.crash m t)
  have HF := Lib.hid h.fine.unsure
  have hsz := h.fine.size
  obtain ⟨hf1, sv, uv, S, hgg, hs1, hu1, hgF, hs1F, hu1F, hSF, hFl⟩ := h
  obtain ⟨Au, cu, rfl, _, hucl, hucm⟩ := hu1.form
  have HG := Lib.hid hgg
  have hgl : g < w.heap.size := (hFl g hgF.1).2
  have c1 : w.cell? ⟨g, 1, none⟩ = some _ := (cell_of_row _ _ _ _ _ _ hgg).trans rfl
  clear hgg
  go_enter Try.func30, Try.ntmps30
  go_wp2
  go_loopw [17] (fun iv wr => ∃ k : Nat, iv = .int .i64 k ∧ k ≤ d.unsure.length ∧ OwnE encSec 177 noS wr B sv (crashL m t 0 (d.unsure.take k) d.sure) ∧ Chg (fun x => sv.ownBlock = some x) w wr) (fun iv _ => d.unsure.length - (intOf iv).toNat)
  case atStart => exact ⟨0, rfl, Nat.zero_le _, hs1, Chg.refl _ _⟩
  case round =>
    obtain ⟨k, rfl, hk, hown, hch⟩ := hrel
    by_cases hlt : k < d.unsure.length
    · obtain ⟨x, hx⟩ : ∃ x, d.unsure[k]? = some x := ⟨_, List.getElem?_eq_getElem hlt⟩
      obtain ⟨p, b⟩ := x
      obtain ⟨hp0, hp1, hbl⟩ := HF.out (p, b) (List.mem_of_getElem? hx)
      have huw := hu1.chg hch (fun x hx hx2 => (hu1F x hx).2.2 hx2) (fun x hx hx2 => (hSF x hx).2.2 hx2)
      obtain ⟨u, c, A, cd, e, hul, _, e0, e1, hrb, hcd, hAS⟩ := unsure_at huw hx hbl
      injection e with ea eb ec
      subst ea
      have hst1 := crashL_take (mask := m) (torn := t) (s := d.sure) hx
      have HX := Lib.hid hst1
      have hg0 : wr.cell? ⟨g, 0, none⟩ = some sv := hch.cell ((cell_of_row _ _ _ _ _ _ HG.out).trans rfl) (fun e => (hs1F g e).2 rfl)
      have hcl := crashL_length m t (d.unsure.take k) 0 d.sure
      have hpk : p < (crashL m t 0 (d.unsure.take k) d.sure).length := by rw [hcl]; exact hp1
      have hsz2 : (crashL m t 0 (d.unsure.take k) d.sure).length ≤ 4096 := by rw [hcl]; exact hsz
      have HB := Lib.hid hbl
      clear hx hst1 hbl eb ec hcl
      have hba := (bl (w := wr)).alloc (Nat.le_refl _) (.cells #[.int .i64 p, .slice A 512 cd] 131)
      have b1 := bit_one t k ht
      have b2 := bit_one m k hm
      by_cases h1 : bitN t k = true
      · rw [if_pos h1] at b1
        clear b2
        have H1 := Lib.hid h1
        clear h1
        go_wp2_with (go_at_call 87; refine (settle_any _ B g sv _ p A cd b true (below_cell hba hg0) (hown.below hba) hp0 hpk hsz2 (hrb.below hba) (fun b' off e => (hSF b' (hAS b' off e)).2.2) (fun e => (hs1F g e).2 rfl)).mono ?_; rintro e w2 ⟨rfl, hown2, hch2⟩)
        go_roundw
        case rel => exact ⟨k + 1, by go_num, by omega, by rw [HX.out]; unfold crashS; rw [if_pos H1.out]; exact hown2, hch.trans ((Chg.of_below (F := fun x => sv.ownBlock = some x) hba).trans hch2 (fun x hx => .inl hx)) (fun x hx => .inl hx)⟩
        case measure => simp [intOf]; omega
      · rw [if_neg h1] at b1
        have H1 := Lib.hid h1
        clear h1
        by_cases h2 : bitN m k = true
        · rw [if_pos h2] at b2
          have H2 := Lib.hid h2
          clear h2
          go_wp2_with (go_at_call 87; refine (settle_any _ B g sv _ p A cd b false (below_cell hba hg0) (hown.below hba) hp0 hpk hsz2 (hrb.below hba) (fun b' off e => (hSF b' (hAS b' off e)).2.2) (fun e => (hs1F g e).2 rfl)).mono ?_; rintro e w2 ⟨rfl, hown2, hch2⟩)
          go_roundw
          case rel => exact ⟨k + 1, by go_num, by omega, by rw [HX.out]; unfold crashS; rw [if_neg H1.out, if_pos H2.out]; exact hown2, hch.trans ((Chg.of_below (F := fun x => sv.ownBlock = some x) hba).trans hch2 (fun x hx => .inl hx)) (fun x hx => .inl hx)⟩
          case measure => simp [intOf]; omega
        · rw [if_neg h2] at b2
          have H2 := Lib.hid h2
          clear h2
          go_wp2
          go_roundw
          case rel => exact ⟨k + 1, by go_num, by omega, by rw [HX.out]; unfold crashS; rw [if_neg H1.out, if_neg H2.out]; exact hown.below hba, hch.nx hba⟩
          case measure => simp [intOf]; omega
    · obtain rfl : k = d.unsure.length := by omega
      have hgw := hch.heap HG.out (fun e => (hs1F g e).2 rfl)
      have c1w : wr.cell? ⟨g, 1, none⟩ = some _ := (cell_of_row _ _ _ _ _ _ hgw).trans rfl
      have c2w : wr.cell? ⟨g, 2, none⟩ = some _ := (cell_of_row _ _ _ _ _ _ hgw).trans rfl
      have c3w : wr.cell? ⟨g, 3, none⟩ = some _ := (cell_of_row _ _ _ _ _ _ hgw).trans rfl
      have f1w : ∀ j, wr.frozen? ⟨g, j, none⟩ = false := fun j => frozen_of_row _ _ _ _ _ hgw
      have HGW := Lib.hid hgw
      rw [List.take_length] at hown
      clear hgw
      go_wp2
      go_ret
      have hcF : Chg F w wr := hch.mono (fun x hx => .inl (hs1F x hx).1)
      have hc2 := (chg_g2 wr g 1 2 (.slice none 0 0) (.int .i64 0)).setCell (p := ⟨g, 3, none⟩) (Or.inl rfl) (.bool false)
      refine ⟨rfl, Dev.own_cells (w := wr) (sv := sv) (S := noS) hfc.out ((heap_setCell_same _ _ _ _ _ _ (heap_setCell_same _ _ _ _ _ _ (heap_setCell_same _ _ _ _ _ _ HGW.out))).trans rfl) hc2 hown (OwnE.nil _ _ _ _) hgF hs1F (fun x hx => by simp [Value.ownBlock] at hx) (fun x hx => hx.elim) (fun x hx => ⟨(hFl x hx).1, Nat.lt_of_lt_of_le (hFl x hx).2 hch.size⟩), hcF.trans hc2 (fun x hx => by subst hx; exact .inl hgF.1)⟩
end Go.Proofs.Ytbjaphldncagjaa
