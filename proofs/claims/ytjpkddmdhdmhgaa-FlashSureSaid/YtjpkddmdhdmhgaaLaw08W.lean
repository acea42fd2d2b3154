/- flash: FlashSure walked. -/
import Derived.Test.YtjpkddmdhdmhgaaLaw08S
namespace Go.Proofs.Ytjpkddmdhdmhgaa
open Go.RowKit

theorem bit_rem (t k : Nat) (hk : k < 64) : ((t : Int) / 2 ^ k).tmod 2 = if bitN t k = true then 1 else 0 := by
  rw [Int.tmod_eq_emod_of_nonneg (Int.ediv_nonneg (Int.natCast_nonneg _) (Int.pow_nonneg (by decide)))]
  rw [show ((t : Int) / 2 ^ k % 2) = ((t / 2 ^ k % 2 : Nat) : Int) by rw [Int.natCast_emod, Int.natCast_ediv, Int.natCast_pow]; rfl]
  unfold bitN
  rw [Nat.mod_eq_of_lt hk]
  rcases Nat.mod_two_eq_zero_or_one (t / 2 ^ k) with h | h <;> rw [h] <;> rfl

set_option maxRecDepth 100000 in
set_option maxHeartbeats 4000000 in
theorem flashSure_walk (A0 A1 : Option Addr) (n0 c0 n1 c1 : Nat) (data : List (List UInt8)) (over : List UInt8) (m t : Nat) (w : World) (hd : RdE (slE encB) w A0 n0 data) (ho : RdB w A1 n1 over) (hm : m < 18446744073709551616) (ht : t < 18446744073709551616) :
    Calls Try.prog 5 #[.slice A0 n0 c0, .slice A1 n1 c1, .int .u64 (m : Int), .int .u64 (t : Int)] w (LawT w) := by
  have hld := hd.len
  subst hld
  have hlo := ho.len
  subst hlo
  have hn : Calls Try.prog 20 #[.int .i64 8] w _ := new_any w 8 (by omega) (by omega)
  have HN := Lib.hid hn
  clear hn
  have hms := mkSl8
  have hmb := mkBool8
  go_enter Try.func5, Try.ntmps5
  go_wp2_with fail
  refine HN.out.mono ?_
  rintro e w1 ⟨g, F, rfl, hd1, hb1⟩
  have HD1 := Lib.hid hd1
  clear hd1
  go_upto_block 0 with (go_at_call 21; refine (answers08_any _).mono ?_; rintro e w2 ⟨rfl, hb2⟩)
  have hd2 := HD1.out.below hb2
  have hbw2 := nx hb1 hb2
  have hS0 : SureSt w (w2.alloc (.cells (madeCells #[.slice none 0 0] 8) 22)) g w2.heap.size F (fun b => b < w.heap.size) (Dv.new 8) (List.replicate 8 []) :=
    ⟨hd2.below (bS8 _ _), (OwnE.made1 (E := slE encB) (S := fun b => b < w.heap.size) w2 (.slice none 0 0) [] 8 rfl (by unfold maxLen; omega) ⟨none, 0, 0, rfl, Els.nil _ _ _ _ _, Nat.le_refl _, Nat.zero_le _⟩ (fun b hb => Nat.lt_of_lt_of_le hb hbw2.size)).base_le hbw2.size, fun x hx => ⟨Nat.ne_of_lt (hd2.F_lt x hx).2, fun h => by have := (hd2.F_lt x hx).1; omega⟩, nx hbw2 (bS8 _ _)⟩
  clear hd2
  have HS0 := Lib.hid hS0
  clear hS0
  go_cut [12] (fun _ wc => ∃ F d want, Hid (SureSt w wc g w2.heap.size F (fun b => b < w.heap.size) d want) ∧ Hid (d.unsure.length ≤ 8 ∧ ∃ k, Eight k d) ∧ Hid (Agree (syncL d.unsure d.sure) want (List.replicate 8 false)) ∧ Hid (∀ x ∈ want, x.length ≤ 512))
  case first =>
    go_wp2_with fail
    go_loopw [12] (fun iv wr => ∃ (k : Nat) (F : Nat → Prop) (d : Dv) (want : List (List UInt8)), iv = .int .i64 k ∧ k ≤ 8 ∧ Hid (SureSt w wr g w2.heap.size F (fun b => b < w.heap.size) d want) ∧ Hid (Eight k d) ∧ Hid (Agree (syncL d.unsure d.sure) want (List.replicate 8 false)) ∧ Hid (∀ x ∈ want, x.length ≤ 512)) (fun iv _ => 8 - (intOf iv).toNat)
    case atStart => exact ⟨0, F, Dv.new 8, _, rfl, Nat.zero_le _, HS0, eight_new, agree_new, fun x hx => by rw [List.eq_of_mem_replicate hx]; exact Nat.zero_le _⟩
    case round =>
      obtain ⟨k, F, d, want, rfl, hk, HS, H8, HA, HW⟩ := hrel
      by_cases h1 : k < data.length
      · by_cases h2 : k < 8
        · obtain ⟨x, hx⟩ : ∃ x, data[k]? = some x := ⟨_, List.getElem?_eq_getElem h1⟩
          obtain ⟨b0, off0, A, cx, rfl, hc0, hrx, hlx, hmx, hAx⟩ := rdSl_at hd hx
          have hc := below_cell HS.out.below hc0
          have hr := hrx.below HS.out.below
          have hl0 : b0 < wr.heap.size := World.block_lt_of_cell? wr _ hc
          clear hx
          by_cases h3 : 512 < x.length
          · go_wp2
            go_ret
            exact ⟨rfl, HS.out.below⟩
          · go_wp2_with (first
              | ((with_reducible show wpList _ _ _ (⟨some 54, _, _, _, _, _⟩ :: _) _ _); refine wpL_cloneB rfl (.tmp 49) (.tmp 53) rfl rfl A _ cx x rfl hr (by omega) ?_; intro v6 w6 hown6 hb6; obtain ⟨A6, c6, rfl, hr6, hl6, hm6⟩ := hown6.form)
              | (go_at_call 22; refine (write_any _ _ g F d k _ _ _ x (HS.out.dev.below hb6) hr6 (fun b off e => by have h1 := (World.ownsRow.lt hown6 b (by rw [e]; rfl)).1; have h2 := HS.out.dev.g_lt.2; omega) (by rw [H8.out.2.1]; omega)).mono ?_; rintro e w7 ⟨rfl, F7, hd7, hc7, _, hF7⟩; have HS7 := Lib.hid ((HS.out.nx hb6).step hd7 hc7 hF7); have q0 := below_cell HS7.out.below hc0; have qr := hrx.below HS7.out.below; have qz := (H8.out.write8 h2 (bs := x) (by omega)); have Q8 := Lib.hid qz.1; have QA := Lib.hid (H8.out.lay h2 (bs := x) (by omega) HA.out); have qw := HS7.out.row; have ⟨qa, qb, qc, _⟩ := OwnSl.at_ qw (k := k) (x := want[k]'(by have := HA.out.2.1; omega)) (List.getElem?_eq_getElem _); have qf := OwnE.free qw k; clear hd7 hc7 hF7 qz qw))
            go_roundw
            case rel => exact ⟨k + 1, F7, _, want.set k x, by go_num, by omega, HS7.out.put (by rw [HA.out.2.1]; omega) qr (fun b off e h => hAx b off e h) hlx hmx, Q8.out, QA.out, fun y hy => (List.mem_or_eq_of_mem_set hy).elim (HW.out y) (fun e => by subst e; omega)⟩
            case measure => simp [intOf]; omega
        · go_wp2
          go_meet
          case rel => exact ⟨F, d, want, HS, ⟨by rw [H8.out.2.1]; omega, k, H8.out⟩, HA, HW⟩
      · go_wp2
        go_meet
        case rel => exact ⟨F, d, want, HS, ⟨by rw [H8.out.2.1]; omega, k, H8.out⟩, HA, HW⟩
  case rest =>
    obtain ⟨F, d, want, HS, H8, HA, HW⟩ := hcut
    obtain ⟨k0, hk0⟩ := H8.out.2
    have HE := Lib.hid hk0.sync
    have hul := H8.out.1
    clear hk0
    go_wp2_with fail
    refine (sync_any _ _ g F d HS.out.dev (by omega)).mono ?_
    rintro e w4 ⟨rfl, hd4, hc4⟩
    rw [HE.out.2.1]
    have HS4 := Lib.hid (HS.out.step hd4 hc4 (fun x hx => .inl hx))
    clear hd4
    go_upto_block 2 with (fail)
    obtain ⟨w5, hw5⟩ : ∃ w5, w5 = w4.alloc (.cells (madeCells #[.bool false] 8) 4) := ⟨_, rfl⟩
    have HB5 : Hid (OwnE encBool 4 noS w5 w.heap.size (.slice (some ⟨w4.heap.size, 0, none⟩) 8 8) (List.replicate 8 false)) := by
      show OwnE _ _ _ _ _ _ _
      rw [hw5]
      exact (OwnE.made1 (E := encBool) (S := noS) w4 (.bool false) false 8 rfl (by unfold maxLen; omega) ⟨rfl, trivial⟩ (fun b hb => hb.elim)).base_le HS4.out.below.size
    have HS5 : Hid (SureSt w w5 g w2.heap.size F (fun b => b < w.heap.size) d.sync.1 want) := by
      show SureSt _ _ _ _ _ _ _ _
      rw [hw5]
      exact HS4.out.nx (bS8 _ _)
    rw [← hw5]
    have hBk : w.heap.size ≤ w4.heap.size := HS4.out.below.size
    have hWB : w2.heap.size ≠ w4.heap.size := Nat.ne_of_lt HS4.out.W_lt.2
    have HX5 : Hid (∀ x, F x ∨ x < w.heap.size → x ≠ w4.heap.size) := fun x hx => by
      rcases hx with hx | hx
      · have := (HS4.out.dev.F_lt x hx).2; omega
      · omega
    clear hw5
    obtain ⟨Bk, hBke⟩ : ∃ Bk, Bk = w4.heap.size := ⟨_, rfl⟩
    rw [← hBke] at HB5 HX5 hBk hWB ⊢
    clear hBke
    go_cut [14, 15] (fun _ _ wc => ∃ F S d want broken n, Hid (SureSt w wc g w2.heap.size F S d want) ∧ Hid (OwnE encBool 4 noS wc w.heap.size (.slice (some ⟨Bk, 0, none⟩) 8 8) broken) ∧ Hid (∀ x, F x ∨ S x → x ≠ Bk) ∧ Hid (n ≤ 64 ∧ Eight n d) ∧ Hid (Agree (crashL m t 0 d.unsure d.sure) want broken) ∧ Hid (∀ x ∈ want, x.length ≤ 512))
    case first =>
      go_wp2_with fail
      go_loopw [14] (fun iv wr => ∃ (n : Nat) (F S : Nat → Prop) (d : Dv) (want : List (List UInt8)) (broken : List Bool), iv = .int .i64 n ∧ n ≤ 64 ∧ Hid (SureSt w wr g w2.heap.size F S d want) ∧ Hid (OwnE encBool 4 noS wr w.heap.size (.slice (some ⟨Bk, 0, none⟩) 8 8) broken) ∧ Hid (∀ x, F x ∨ S x → x ≠ Bk) ∧ Hid (Eight n d) ∧ Hid (Agree (crashL m t 0 d.unsure d.sure) want broken) ∧ Hid (∀ x ∈ want, x.length ≤ 512)) (fun iv _ => 64 - (intOf iv).toNat)
      case atStart => exact ⟨0, F, _, d.sync.1, want, _, rfl, Nat.zero_le _, HS5, HB5, HX5, HE.out.1, by show Agree _ _ _; rw [HE.out.2.2.1, HE.out.2.2.2]; exact HA.out, HW⟩
      case round =>
        obtain ⟨n, F, S, d, want, broken, rfl, hn, HS, HB, HX, H8, HA, HW⟩ := hrel
        by_cases h1 : n < over.length
        · by_cases h2 : n < 64
          · obtain ⟨b1, off1, y, rfl, hy, hc0⟩ := ho.at_ h1
            have hc := below_cell HS.out.below hc0
            clear hy
            obtain ⟨p, hp⟩ : ∃ p, p = y.toNat % 8 := ⟨_, rfl⟩
            have hp8 : p < 8 := by omega
            have hmod : (y.toNat : Int) % 8 = (p : Int) := by rw [hp]; rfl
            clear hp
            have hyl := UInt8.toNat_lt y
            have hl0 : b1 < wr.heap.size := World.block_lt_of_cell? wr _ hc
            have e1 := bit_rem t n h2
            have e2 := bit_rem m n h2
            have hun : d.unsure.length ≤ 1000000 := by rw [H8.out.2.1]; omega
            have hlit : RdB (wr.alloc (.cells #[.int .u8 (y.toNat : Int), .int .u8 1] 5)) (some ⟨wr.heap.size, 0, none⟩) 2 [y, 1] := lit_rd wr [y, 1] (Nat.le_of_ble_eq_true rfl)
            go_wp2_with fail
            refine (write_any (wr.alloc (.cells #[.int .u8 (y.toNat : Int), .int .u8 1] 5)) _ g F d p _ 2 2 [y, 1] (HS.out.dev.below (bS8 wr _)) hlit (new_ne HS.out.dev) hun).mono ?_
            rintro e w7 ⟨rfl, F7, hd7, hc7, _, hF7⟩
            have q8 := H8.out.write8 hp8 (bs := [y, 1]) (Nat.le_of_ble_eq_true rfl)
            rw [q8.2]
            have H8' := Lib.hid q8.1
            have HA' := Lib.hid (H8.out.step hp8 (bs := [y, 1]) (Nat.le_of_ble_eq_true rfl) m t HA.out)
            have HS7 := Lib.hid ((HS.out.nx (bS8 wr _)).step hd7 hc7 hF7)
            have hBw : Bk < wr.heap.size := (HB.out.lt Bk rfl).2
            have HX7 : Hid (∀ x, F7 x ∨ S x → x ≠ Bk) := fun x hx => by
              rcases hx with hx | hx
              · rcases hF7 x hx with h | h
                · exact HX.out x (.inl h)
                · have : (wr.alloc (.cells #[.int .u8 (y.toNat : Int), .int .u8 1] 5)).heap.size = wr.heap.size + 1 := by simp
                  omega
              · exact HX.out x (.inr hx)
            have HB7 : Hid (OwnE encBool 4 noS w7 w.heap.size (.slice (some ⟨Bk, 0, none⟩) 8 8) broken) := by
              show OwnE _ _ _ _ _ _ _
              exact (HB.out.below (bS8 wr _)).chg hc7 (fun x hx hf => by injection hx with hx; subst hx; exact HX.out _ (.inl hf) rfl) (fun _ hb => hb.elim)
            have hW8 := HA.out.2.1
            have hB8 := HA.out.2.2.1
            have k1 := OwnBl.at_ HB7.out (k := p) (b := broken[p]'(by omega)) (List.getElem?_eq_getElem _)
            obtain ⟨qa, qb, k2, _⟩ := OwnSl.at_ HS7.out.row (k := p) (x := want[p]'(by omega)) (List.getElem?_eq_getElem _)
            have f1 := OwnE.free HB7.out p
            have f2 := OwnE.free HS7.out.row p
            have c7 := below_cell HS7.out.below hc0
            have hl7 : b1 < w7.heap.size := World.block_lt_of_cell? w7 _ c7
            have hbb : b1 < w.heap.size := World.block_lt_of_cell? w _ hc0
            have hne1 : b1 ≠ Bk := by omega
            have hne2 : b1 ≠ w2.heap.size := by have := HS7.out.W_lt.1; omega
            have hB7l : Bk < w7.heap.size := World.block_lt_of_cell? w7 _ k1
            have hW7l : w2.heap.size < w7.heap.size := World.block_lt_of_cell? w7 _ k2
            clear hd7 q8
            by_cases ht1 : bitN t n = true
            · rw [if_pos ht1] at e1
              rw [if_pos ht1, if_pos ht1] at HA'
              clear e2 ht1
              go_wp2
              go_roundw
              case rel => exact ⟨n + 1, F7, S, _, _, _, by go_num, by omega, (HS7.out.other HX7.out hWB hBk (.bool true)).put (k := p) (by omega) (x := []) (show RdB _ none 0 [] from Rd.nil _ _ _) (fun _ _ e => by cases e) (Nat.le_refl _) (Nat.zero_le _), (OwnBl.put HB7.out (by omega) true).chg (F := fun x => x = w2.heap.size) ((Chg.refl (fun x => x = w2.heap.size) _).setCell (p := ⟨w2.heap.size, p, none⟩) (Or.inl rfl) _) (fun x hx e => by injection hx with hx; simp only at hx; omega) (fun _ hb => hb.elim), HX7, H8', HA', fun z hz => (List.mem_or_eq_of_mem_set hz).elim (HW.out z) (fun e => by subst e; exact Nat.zero_le _)⟩
              case measure => simp [intOf]; omega
            · rw [if_neg ht1] at e1
              rw [if_neg ht1, if_neg ht1] at HA'
              clear ht1
              by_cases hm1 : bitN m n = true
              · rw [if_pos hm1] at e2
                rw [if_pos hm1, if_pos hm1] at HA'
                clear hm1
                go_wp2
                go_roundw
                case rel =>
                  have hA := HS7.out.other HX7.out hWB hBk (k := p) (.bool false)
                  have hB := OwnBl.put HB7.out (k := p) (by omega) false
                  have hzz : (w7.setCell ⟨Bk, p, none⟩ (.bool false)).heap.size = w7.heap.size := by simp
                  generalize hwA : w7.setCell ⟨Bk, p, none⟩ (.bool false) = wA at hA hB hzz
                  have hlA : RdB (wA.alloc (.cells #[.int .u8 (y.toNat : Int), .int .u8 1] 5)) (some ⟨wA.heap.size, 0, none⟩) 2 [y, 1] := lit_rd wA [y, 1] (Nat.le_of_ble_eq_true rfl)
                  have hA2 := ((hA.nx (bS8 wA (.cells #[.int .u8 (y.toNat : Int), .int .u8 1] 5))).widen (b := wA.heap.size) (by simp) (fun hf => by have := (HS7.out.dev.F_lt _ hf).2; omega) (by omega)).put (k := p) (by omega) hlA (fun b off e _ => by injection e with e; injection e with e; exact .inr e.symm) (Nat.le_refl _) (by unfold maxLen; omega)
                  have hB2 := (hB.below (bS8 wA (.cells #[.int .u8 (y.toNat : Int), .int .u8 1] 5))).chg (F := fun x => x = w2.heap.size) ((Chg.refl (fun x => x = w2.heap.size) _).setCell (p := ⟨w2.heap.size, p, none⟩) (Or.inl rfl) (.slice (some ⟨wA.heap.size, 0, none⟩) 2 2)) (fun x hx e => by injection hx with hx; simp only at hx; omega) (fun _ hb => hb.elim)
                  have hWl : w2.heap.size < wA.heap.size := by omega
                  rw [World.setCell_alloc_past _ _ _ _ hWl, hzz] at hA2 hB2
                  subst hwA
                  refine ⟨n + 1, F7, _, _, _, _, by go_num, by omega, hA2, hB2, fun x hx => ?_, H8', HA', fun z hz => (List.mem_or_eq_of_mem_set hz).elim (HW.out z) (fun e => by subst e; exact Nat.le_of_ble_eq_true rfl)⟩
                  rcases hx with hx | hx | hx
                  · exact HX7.out x (.inl hx)
                  · exact HX7.out x (.inr hx)
                  · omega
                case measure => simp [intOf]; omega
              · rw [if_neg hm1] at e2
                rw [if_neg hm1, if_neg hm1] at HA'
                clear hm1
                go_wp2
                go_roundw
                case rel => exact ⟨n + 1, F7, S, _, want, broken, by go_num, by omega, HS7, HB7, HX7, H8', HA', HW⟩
                case measure => simp [intOf]; omega
          · go_wp2
            go_meet
            case rel => exact ⟨F, S, d, want, broken, n, HS, HB, HX, ⟨hn, H8.out⟩, HA, HW⟩
        · go_wp2
          go_meet
          case rel => exact ⟨F, S, d, want, broken, n, HS, HB, HX, ⟨hn, H8.out⟩, HA, HW⟩
    case rest =>
      obtain ⟨F, S, d, want, broken, n, HS, HB, HX, H8, HA, HW⟩ := hcut
      have hul : d.unsure.length ≤ 1000000 := by have := H8.out.1; rw [H8.out.2.2.1]; omega
      go_wp2_with fail
      refine (crash_any _ _ g F d m t hm ht HS.out.dev hul).mono ?_
      rintro e w6 ⟨rfl, hd6, hc6⟩
      have HS6 := Lib.hid (HS.out.step hd6 hc6 (fun x hx => .inl hx))
      have HB6 : Hid (OwnE encBool 4 noS w6 w.heap.size (.slice (some ⟨Bk, 0, none⟩) 8 8) broken) := HB.out.chg hc6 (fun x hx hf => by injection hx with hx; subst hx; exact HX.out _ (.inl hf) rfl) (fun _ hb => hb.elim)
      have H86 : Hid (Eight 0 (d.crash m t)) := ⟨by show (crashL _ _ _ _ _).length = 8; rw [crashL_length]; exact H8.out.2.1, rfl, rfl, rfl⟩
      have HA6 : Hid (Agree (d.crash m t).sure want broken) := HA.out
      have hw8 := HA.out.2.1
      have hb8 := HA.out.2.2.1
      generalize d.crash m t = dc at HS6 H86 HA6
      clear hd6 HA H8 HB HS hul
      go_wp2_with fail
      go_loopw [16] (fun iv wr => ∃ k : Nat, iv = .int .i64 k ∧ k ≤ 8 ∧ Below w6.heap.size w6 wr) (fun iv _ => 8 - (intOf iv).toNat)
      case atStart => exact ⟨0, rfl, Nat.zero_le _, bl⟩
      case round =>
        obtain ⟨k, rfl, hk, hbr⟩ := hrel
        by_cases h1 : k < 8
        · obtain ⟨x, hx⟩ : ∃ x, want[k]? = some x := ⟨_, List.getElem?_eq_getElem (by omega)⟩
          obtain ⟨b, hb⟩ : ∃ b, broken[k]? = some b := ⟨_, List.getElem?_eq_getElem (by omega)⟩
          have hrd := Lib.hid (H86.out.read HA6.out hx hb)
          have hxl := HW.out x (List.mem_of_getElem? hx)
          obtain ⟨A7, c7, k2, hr7, hl7, _⟩ := OwnSl.at_ HS6.out.row hx
          have k1 := OwnBl.at_ HB6.out hb
          have HSr := Lib.hid (HS6.out.nx hbr)
          clear hx hb
          go_wp2_with fail
          refine (read_any _ _ g F dc k HSr.out.dev (by rw [H86.out.2.1]; exact Nat.zero_le _)).mono ?_
          rw [hrd.out]
          have hpx : (pad x).length = 512 := pad_len hxl
          cases b
          · rw [if_neg (by decide)]
            rintro e w8 ⟨v8, rfl, hown8, hb8'⟩
            have hb9 := nx hbr hb8'
            obtain ⟨A8, c8, rfl, hr8, _⟩ := hown8.form
            simp only [hpx] at hr8 ⊢
            have j1 := below_cell hb9 k1
            have j2 := below_cell hb9 k2
            have j2l := World.block_lt_of_cell? w8 _ j2
            go_wp2_with fail
            refine (zero_any _).mono ?_
            rintro e w9 ⟨_, rfl, ⟨g9, rfl, hown9⟩, hb10⟩
            have i2 := below_cell hb10 j2
            have i8 := hr8.below hb10
            have ix := hr7.below (nx hb9 hb10)
            have hg9 : w8.heap.size ≤ g9 ∧ g9 < w9.heap.size := hown9.lt
            go_wp2_with ((with_reducible show wpList _ _ _ (⟨some 151, _, _, _, _, _⟩ :: _) _ _); refine wpL_copyH rfl (.tmp 146) (.tmp 150) rfl g9 512 512 rfl A7 _ c7 rfl _ zero512 hown9 x ix hxl ?_; intro w10 hown10 hg10; rw [pad_eq] at hown10)
            have hb11 : Below w8.heap.size w8 w10 := hb10.grown hg10 hb10.size (fun k hk => by injection hk with hk; omega)
            refine (same_any _ _ _ _ _ _ (pad x) (pad x) _ (hr8.below hb11) hown10.rd.1 (by unfold maxLen; omega) (by unfold maxLen; omega)).mono ?_
            rintro e w11 ⟨rfl, k11, rfl⟩
            go_wp2
            go_roundw
            case rel => exact ⟨k + 1, by go_num, by omega, dN (nx hb9 hb11) k11⟩
            case measure => simp [intOf]; omega
          · rw [if_pos rfl]
            rintro e w8 ⟨v8, rfl, hown8, hb8'⟩
            have hb9 := nx hbr hb8'
            obtain ⟨A8, c8, rfl, _⟩ := hown8.form
            have j1 := below_cell hb9 k1
            go_wp2
            go_roundw
            case rel => exact ⟨k + 1, by go_num, by omega, hb9⟩
            case measure => simp [intOf]; omega
        · go_wp2
          go_ret
          exact ⟨rfl, nx HS6.out.below hbr⟩
end Go.Proofs.Ytjpkddmdhdmhgaa
