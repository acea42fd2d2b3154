/- Names that are the same but for their letters' cases. -/
import Derived.Test.YtjpkddmdhdmhgaaSmall
import Derived.Deep.RegionHeld3
namespace Go.Proofs.Ytjpkddmdhdmhgaa
open Go.RowKit
set_option maxRecDepth 100000

theorem smallC_hi2 {x : UInt8} (h1 : 65 ≤ x.toNat) (h2 : x.toNat ≤ 90) : ((smallC x).toNat : Int) = x.toNat + 32 := by
  rw [smallC_hi h1 h2]; omega

set_option maxHeartbeats 1000000 in
theorem rsmall_any (l : List UInt8) (hl : l.length ≤ 9223372036854775807) (w : World) :
    Calls Try.prog 98 #[.string (bstr l)] w (RetP (fun v _ => v = .string (bstr (smallL l))) w) := by
  have hcb := fun W : World => Lib.run_convert_string_bytes (P := Try.prog) W 9 22 5 (bstr l) Try.underlying9 Try.underlying22 Try.underlying5
  have hbs := bstr_size l
  obtain ⟨w1, hw1⟩ : ∃ w1, w1 = Lib.bytesWorld w 5 (bstr l) := ⟨_, rfl⟩
  have HB1 : Hid (BRow w1 w.heap.size l) := by show BRow _ _ _; rw [hw1]; exact BRow.made w l
  have hb1 : Below w.heap.size w w1 := by rw [hw1]; exact (conv_rd w l).2
  go_enter Try.func98, Try.ntmps98
  go_upto_region 2 with (fail)
  rw [← hw1]
  clear hw1 hcb
  go_wp2
  go_loopw [4] (fun iv wr => ∃ k : Nat, iv = .int .i64 k ∧ k ≤ l.length ∧ Hid (BRow wr w.heap.size (someL l k)) ∧ Below w.heap.size w wr) (fun iv _ => l.length - (intOf iv).toNat)
  case atStart => exact ⟨0, rfl, Nat.zero_le _, HB1, hb1⟩
  case round =>
    obtain ⟨k, rfl, hk, HB, hbw⟩ := hrel
    clear HB1 hb1
    have hsl := Lib.hid (someL_length l k hk)
    by_cases hlt : k < l.length
    · obtain ⟨x, hx⟩ : ∃ x, l[k]? = some x := ⟨_, List.getElem?_eq_getElem hlt⟩
      have hcx := HB.out.cell (someL_at hx)
      have hfx := HB.out.free (j := k) (by rw [hsl.out]; exact hlt)
      have HX := Lib.hid hx
      have hx8 := x.toNat_lt
      clear hx
      by_cases h1 : 65 ≤ x.toNat ∧ x.toNat ≤ 90
      · obtain ⟨h1, h2⟩ := h1
        have HE := Lib.hid (smallC_hi2 h1 h2)
        have hset := HB.out.set k (smallC x)
        rw [HE.out, someL_succ HX.out] at hset
        have HS := Lib.hid hset
        clear hset
        go_wp2
        go_roundw
        case rel => exact ⟨k + 1, by go_num, by omega, HS.out, hbw.setCell (Nat.le_refl _) _⟩
        case measure => simp [intOf]; omega
      · have HS := Lib.hid (someL_same HX.out (smallC_lo h1))
        by_cases h2 : x.toNat < 65
        · clear h1
          go_wp2
          go_roundw
          case rel => exact ⟨k + 1, by go_num, by omega, by rw [HS.out]; exact HB, hbw⟩
          case measure => simp [intOf]; omega
        · have h3 : 90 < x.toNat := by omega
          clear h1
          go_wp2
          go_roundw
          case rel => exact ⟨k + 1, by go_num, by omega, by rw [HS.out]; exact HB, hbw⟩
          case measure => simp [intOf]; omega
    · have hke : k = l.length := by omega
      have hrd := HB.out.rd
      rw [hsl.out, hke, someL_all] at hrd
      have hcv := fun (c : Nat) => conv_str (P := Try.prog) _ _ _ Try.underlying22 Try.underlying5 Try.underlying9 wr (some ⟨w.heap.size, 0, none⟩) l.length c (smallL l) hrd
      go_wp2
      go_ret
      exact ⟨_, rfl, rfl, hbw⟩

theorem bstr_beq (x y : List UInt8) : ((bstr x).toList == (bstr y).toList) = decide (x = y) := by
  rw [bstr_toList, bstr_toList]
  by_cases h : x = y
  · rw [h, decide_eq_true rfl]; simp
  · rw [decide_eq_false h, beq_eq_false_iff_ne]; exact h

theorem nameEq1_any (x y : List UInt8) (hx : x.length ≤ maxLen) (hy : y.length ≤ maxLen) (w : World) :
    Calls Try.prog 96 #[.string (bstr x), .string (bstr y)] w (RetP (fun v _ => v = .bool (decide (smallL x = smallL y))) w) := by
  unfold maxLen at hx hy
  have hq := bstr_beq (smallL x) (smallL y)
  go_enter Try.func96, Try.ntmps96
  go_wp2_with (first
    | (go_at_call 97; refine (small_any y hy w1).mono ?_; rintro e w2 ⟨v2, rfl, rfl, hb2⟩)
    | (go_at_call 97; refine (small_any x hx w).mono ?_; rintro e w1 ⟨v1, rfl, rfl, hb1⟩)
    | fail)
  go_ret
  exact ⟨_, rfl, rfl, nx hb1 hb2⟩

theorem low_at {xs : List (List UInt8)} {k : Nat} {x : List UInt8} (hx : xs[k]? = some x) : (lowN xs)[k]? = some (smallL x) := by
  unfold lowN; rw [List.getElem?_map, hx]; rfl
theorem low_len (xs : List (List UInt8)) : (lowN xs).length = xs.length := List.length_map _

set_option maxHeartbeats 1000000 in
theorem eqFunc_any (A A' : Option Addr) (n c n' c' : Nat) (xs ys : List (List UInt8)) (w : World) (hx : RdE encS w A n xs) (hy : RdE encS w A' n' ys) (hn : n ≤ maxLen) (hn' : n' ≤ maxLen) :
    Calls Try.prog 95 #[.slice A n c, .slice A' n' c', .func (.func 96) #[] #[]] w (RetP (fun v _ => v = .bool (decide (lowN xs = lowN ys))) w) := by
  unfold maxLen at hn hn'
  have hlx := Lib.hid hx.len
  have hly := Lib.hid hy.len
  by_cases hnn : n = n'
  · subst hnn
    go_enter Try.func95, Try.ntmps95
    go_wp2
    go_loopw [17] (fun i wr => ∃ k : Nat, i = .int .i64 k ∧ k ≤ n ∧ Below w.heap.size w wr ∧ Hid ((lowN xs).take k = (lowN ys).take k)) (fun i _ => n - (intOf i).toNat)
    case atStart => exact ⟨0, rfl, Nat.zero_le _, bl, rfl⟩
    case round =>
      obtain ⟨k, rfl, hk, hbw, HT⟩ := hrel
      by_cases hlt : k < n
      · obtain ⟨x, gx⟩ : ∃ x, xs[k]? = some x := ⟨_, List.getElem?_eq_getElem (by rw [hlx.out]; exact hlt)⟩
        obtain ⟨y, gy⟩ : ∃ y, ys[k]? = some y := ⟨_, List.getElem?_eq_getElem (by rw [hly.out]; exact hlt)⟩
        obtain ⟨b, off, rfl, _, cx, mx⟩ := strs_at (hx.below hbw) gx
        obtain ⟨b', off', rfl, _, cy, my⟩ := strs_at (hy.below hbw) gy
        have GX := Lib.hid (low_at gx)
        have GY := Lib.hid (low_at gy)
        clear gx gy
        by_cases hxy : smallL x = smallL y
        · have HX := Lib.hid hxy
          clear hxy
          go_wp2_with (first
            | (go_at_call 96; refine (nameEq1_any x y mx my _).mono ?_; rw [decide_eq_true HX.out]; rintro e w2 ⟨v2, rfl, rfl, hb2⟩)
            | fail)
          go_roundw
          case rel => exact ⟨k + 1, by go_num, by omega, nx hbw hb2, take_eq_succ HT.out GX.out GY.out HX.out⟩
          case measure => simp [intOf]; omega
        · have HX := Lib.hid hxy
          clear hxy
          go_wp2_with (first
            | (go_at_call 96; refine (nameEq1_any x y mx my _).mono ?_; rw [decide_eq_false HX.out]; rintro e w2 ⟨v2, rfl, rfl, hb2⟩)
            | fail)
          go_ret
          exact ⟨_, rfl, by rw [decide_eq_false (ne_of_get GX.out GY.out HX.out)]; rfl, nx hbw hb2⟩
      · go_wp2
        go_ret
        have hk' : k = n := by omega
        have he := HT.out
        rw [hk', List.take_of_length_le (by rw [low_len, hlx.out]; omega), List.take_of_length_le (by rw [low_len, hly.out]; omega)] at he
        exact ⟨_, rfl, by rw [decide_eq_true he]; rfl, hbw⟩
  · have hb : ((n : Int) != (n' : Int)) = true := by rw [bne_iff_ne]; omega
    go_enter Try.func95, Try.ntmps95
    go_wp2
    go_ret
    have he : lowN xs ≠ lowN ys := fun e => by
      have := congrArg List.length e
      rw [low_len, low_len, hlx.out, hly.out] at this
      exact hnn this
    exact ⟨_, rfl, by rw [decide_eq_false he]; rfl, bl⟩

theorem nequal_any (A A' : Option Addr) (n c n' c' : Nat) (xs ys : List (List UInt8)) (w : World) (hx : RdE encS w A n xs) (hy : RdE encS w A' n' ys) (hn : n ≤ maxLen) (hn' : n' ≤ maxLen) :
    Calls Try.prog 82 #[.slice A n c, .slice A' n' c'] w (RetP (fun v _ => v = .bool (decide (lowN xs = lowN ys))) w) := by
  go_enter Try.func82, Try.ntmps82
  go_wp2_with (go_at_call 95; refine (eqFunc_any _ _ _ _ _ _ xs ys _ hx hy hn hn').mono ?_; rintro e w1 ⟨v1, rfl, rfl, hb1⟩)
  go_ret
  exact ⟨_, rfl, rfl, hb1⟩

set_option maxHeartbeats 2000000 in
theorem requal_any (A A' : Option Addr) (n c n' c' : Nat) (xs ys : List (List UInt8)) (w : World) (hx : RdE encS w A n xs) (hy : RdE encS w A' n' ys) (hn : n ≤ maxLen) (hn' : n' ≤ maxLen) :
    Calls Try.prog 85 #[.slice A n c, .slice A' n' c'] w (RetP (fun v _ => v = .bool (decide (lowN xs = lowN ys))) w) := by
  unfold maxLen at hn hn'
  have hlx := Lib.hid hx.len
  have hly := Lib.hid hy.len
  by_cases hnn : n = n'
  · subst hnn
    go_enter Try.func85, Try.ntmps85
    go_wp2
    go_loopw [5] (fun i wr => ∃ k : Nat, i = .int .i64 k ∧ k ≤ n ∧ Below w.heap.size w wr ∧ Hid ((lowN xs).take k = (lowN ys).take k)) (fun i _ => n - (intOf i).toNat)
    case atStart => exact ⟨0, rfl, Nat.zero_le _, bl, rfl⟩
    case round =>
      obtain ⟨k, rfl, hk, hbw, HT⟩ := hrel
      by_cases hlt : k < n
      · obtain ⟨x, gx⟩ : ∃ x, xs[k]? = some x := ⟨_, List.getElem?_eq_getElem (by rw [hlx.out]; exact hlt)⟩
        obtain ⟨y, gy⟩ : ∃ y, ys[k]? = some y := ⟨_, List.getElem?_eq_getElem (by rw [hly.out]; exact hlt)⟩
        obtain ⟨b, off, rfl, _, cx, mx⟩ := strs_at (hx.below hbw) gx
        obtain ⟨b', off', rfl, _, cy, my⟩ := strs_at (hy.below hbw) gy
        have GX := Lib.hid (low_at gx)
        have GY := Lib.hid (low_at gy)
        have hq := bstr_beq (smallL x) (smallL y)
        unfold maxLen at mx my
        clear gx gy
        by_cases hxy : smallL x = smallL y
        · have HX := Lib.hid hxy
          rw [decide_eq_true hxy] at hq
          clear hxy
          go_upto_region 6 with (fail)
          go_region_held3 (fun w' => w'.cell? ⟨b, off + k, none⟩ = some (.string (bstr x)) ∧ w'.cell? ⟨b', off' + k, none⟩ = some (.string (bstr y)))
            (first
              | with_reducible exact ⟨cx, cy⟩
              | with_reducible exact ⟨below_cell bl.drew cx, below_cell bl.drew cy⟩
              | with_reducible exact ⟨p1, p2⟩
              | with_reducible exact ⟨q1, q2⟩
              | fail)
            (first
              | (go_at_call 98; refine (rsmall_any y my wa).mono ?_; rintro e wb ⟨v2, rfl, rfl, hb2⟩; have q1 := below_cell hb2 p1; have q2 := below_cell hb2 p2)
              | (go_at_call 98; refine (rsmall_any x mx wr.drew).mono ?_; rintro e wa ⟨v1, rfl, rfl, hb1'⟩; have hb1 : Below wr.heap.size wr wa := bl.drew.trans hb1'; have p1 := below_cell hb1 cx; have p2 := below_cell hb1 cy)
              | fail)
          have hbn := nx hbw (nx hb1 hb2)
          go_wp2
          go_roundw
          case rel => exact ⟨k + 1, by go_num, by omega, hbn, take_eq_succ HT.out GX.out GY.out HX.out⟩
          case measure => simp [intOf]; omega
        · have HX := Lib.hid hxy
          rw [decide_eq_false hxy] at hq
          clear hxy
          go_upto_region 6 with (fail)
          go_region_held3 (fun w' => w'.cell? ⟨b, off + k, none⟩ = some (.string (bstr x)) ∧ w'.cell? ⟨b', off' + k, none⟩ = some (.string (bstr y)))
            (first
              | with_reducible exact ⟨cx, cy⟩
              | with_reducible exact ⟨below_cell bl.drew cx, below_cell bl.drew cy⟩
              | with_reducible exact ⟨p1, p2⟩
              | with_reducible exact ⟨q1, q2⟩
              | fail)
            (first
              | (go_at_call 98; refine (rsmall_any y my wa).mono ?_; rintro e wb ⟨v2, rfl, rfl, hb2⟩; have q1 := below_cell hb2 p1; have q2 := below_cell hb2 p2)
              | (go_at_call 98; refine (rsmall_any x mx wr.drew).mono ?_; rintro e wa ⟨v1, rfl, rfl, hb1'⟩; have hb1 : Below wr.heap.size wr wa := bl.drew.trans hb1'; have p1 := below_cell hb1 cx; have p2 := below_cell hb1 cy)
              | fail)
          have hbn := nx hbw (nx hb1 hb2)
          go_wp2
          go_ret
          exact ⟨_, rfl, by rw [decide_eq_false (ne_of_get GX.out GY.out HX.out)]; rfl, hbn⟩
      · go_wp2
        go_ret
        have hk' : k = n := by omega
        have he := HT.out
        rw [hk', List.take_of_length_le (by rw [low_len, hlx.out]; omega), List.take_of_length_le (by rw [low_len, hly.out]; omega)] at he
        exact ⟨_, rfl, by rw [decide_eq_true he]; rfl, hbw⟩
  · have hb : ((n : Int) != (n' : Int)) = true := by rw [bne_iff_ne]; omega
    go_enter Try.func85, Try.ntmps85
    go_wp2
    go_ret
    have he : lowN xs ≠ lowN ys := fun e => by
      have := congrArg List.length e
      rw [low_len, low_len, hlx.out, hly.out] at this
      exact hnn this
    exact ⟨_, rfl, by rw [decide_eq_false he]; rfl, bl⟩
end Go.Proofs.Ytjpkddmdhdmhgaa
