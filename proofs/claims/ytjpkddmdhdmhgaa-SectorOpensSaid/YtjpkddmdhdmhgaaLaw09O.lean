/- The walks of the statements of layer 9 (sector): SectorOpens, SectorBack. -/
import Derived.Test.YtjpkddmdhdmhgaaRSOpen
import Derived.Test.YtjpkddmdhdmhgaaSame
import Derived.Test.YtjpkddmdhdmhgaaAns09
import Derived.StillTailTactics
import Derived.Deep.CutBlock
import Derived.Deep.DeepCutAuto
namespace Go.Proofs.Ytjpkddmdhdmhgaa
open Go.RowKit

/-- How many elements a slice has. -/
def slen : Value → Nat | .slice _ n _ => n | _ => 0

theorem openP_cases (b : List UInt8) : (∃ f : Int, f ≠ 0 ∧ (f = 3 ∨ f = 14) ∧ openP b = ([0, 0, 0, 0, 0], [], f)) ∨ ∃ a0 a1 a2 a3 a4 : Int, (dataP b).length ≤ 2000 ∧ openP b = ([a0, a1, a2, a3, a4], dataP b, 0) := by
  by_cases h : b.length = 512
  · by_cases h2 : lenP b ≤ 496 ∧ partsP b ∧ tailP b
    · exact .inr ⟨_, _, _, _, _, by rw [dataP_len h h2.1]; omega, openP_ok h h2⟩
    · exact .inl ⟨14, by decide, .inr rfl, openP_bad h h2⟩
  · exact .inl ⟨3, by decide, .inl rfl, openP_short h⟩

set_option maxRecDepth 100000 in
set_option maxHeartbeats 2000000 in
theorem sectorOpens_walk (A A1 A2 : Option Addr) (m c m1 c1 m2 c2 : Nat) (bs ts : List UInt8) (ch : List Nat) (w : World) (hb : RdB w A m bs) (hch : RdE encU16 w A1 m1 ch) (hto : RdB w A2 m2 ts) (hreach : m ≤ 140737488351232) :
    Calls Try.prog 3 #[.slice A m c, .slice A1 m1 c1, .slice A2 m2 c2] w (LawT w) := by
  have hlb := hb.len
  subst hlb
  have hlc := hch.len
  subst hlc
  have hlt := hto.len
  subst hlt
  by_cases h2 : 2000 < bs.length
  · go_enter Try.func3, Try.ntmps3
    go_wp2_with (first
      | ((with_reducible show wpList _ _ _ (⟨some 17, _, _, _, _, _⟩ :: _) _ _); refine wpL_cloneB rfl (.tmp 15) (.tmp 16) rfl rfl A _ c bs rfl hb (by omega) ?_; intro v2 w2 hown2 hb2; obtain ⟨g2, cc2, rfl, _⟩ := hown2.form)
      | (go_at_call 15; refine (answers09_any _).mono ?_; rintro e w3 ⟨rfl, hb3⟩; have hb2 := nx hb2 hb3))
    go_ret
    exact ⟨rfl, hb2⟩
  · go_enter Try.func3, Try.ntmps3
    go_upto_block 0 with (first
      | ((with_reducible show wpList _ _ _ (⟨some 17, _, _, _, _, _⟩ :: _) _ _); refine wpL_cloneB rfl (.tmp 15) (.tmp 16) rfl rfl A _ c bs rfl hb (by omega) ?_; intro v2 w2 hown2 hb2; obtain ⟨g2, cc2, rfl, _⟩ := hown2.form)
      | (go_at_call 15; refine (answers09_any _).mono ?_; rintro e w3 ⟨rfl, hb3⟩; have hown3 := hown2.below hb3; have hb2 := nx hb2 hb3))
    go_cut [7] (fun v wc => ∃ xs : List UInt8, OwnB wc w.heap.size v xs ∧ xs.length ≤ 2000 ∧ Below w.heap.size w wc)
    case first =>
      go_wp2_with fail
      go_loopw [7] (fun v wr => ∃ xs : List UInt8, OwnB wr w.heap.size v xs ∧ xs.length ≤ 2000 ∧ Below w.heap.size w wr) (fun v _ => 512 - slen v)
      case atStart => exact ⟨bs, hown3, by omega, hb2⟩
      case round =>
        obtain ⟨xs, hown, hxl, hbw⟩ := hrel
        obtain ⟨A', c', rfl, hrd, hlc, hcm⟩ := hown.form
        by_cases h0 : 0 < xs.length
        · by_cases h5 : xs.length < 512
          · by_cases h3 : bs.length % 3 = 0
            · have h3' : ((bs.length : Int) % 3 != 0) = false := by simp; omega
              clear h3
              go_wp2
              go_meet
              case rel => exact ⟨xs, hown, hxl, hbw⟩
            · have h3' : ((bs.length : Int) % 3 != 0) = true := by simp; omega
              clear h3
              go_wp2_with ((with_reducible show wpList _ _ _ (⟨some 42, _, _, _, _, _⟩ :: _) _ _); refine wpL_pushB rfl (.tmp 40) (.tmp 41) rfl w.heap.size _ xs rfl hown 0 0 rfl rfl (by omega) hbw.size ?_; intro v4 w4 hown4 hg4 _; have hb4 := hbw.grown hg4 hbw.size (fun k hk => (World.ownsRow.lt hown k hk).1); obtain ⟨g4, c4, rfl, _⟩ := hown4.form; rw [List.length_append, List.length_singleton] at hown4 ⊢)
              go_roundw
              case rel => exact ⟨_, hown4, by simp; omega, hb4⟩
              case measure => simp [slen]; omega
          · go_wp2
            go_meet
            case rel => exact ⟨xs, hown, hxl, hbw⟩
        · go_wp2
          go_meet
          case rel => exact ⟨xs, hown, hxl, hbw⟩
    case rest =>
      obtain ⟨xs, hown, hxl, hbw⟩ := hcut
      obtain ⟨A', c', rfl, hrd, hlc, hcm⟩ := hown.form
      obtain ⟨n, hn⟩ : ∃ n, n = xs.length := ⟨_, rfl⟩
      rw [← hn] at hown hxl hrd hlc ⊢
      have HN := Lib.hid hn
      clear hn
      go_upto_block 2 with (fail)
      go_cut [7, 8] (fun v _ wc => v = .slice A' n c' ∧ ∃ ys : List UInt8, ys.length = n ∧ OwnB wc w.heap.size (.slice A' n c') ys ∧ Below w.heap.size w wc)
      case first =>
        go_wp2_with fail
        go_loopw [8] (fun i wr => ∃ (k : Nat) (ys : List UInt8), i = .int .i64 k ∧ k ≤ 20 ∧ ys.length = n ∧ OwnB wr w.heap.size (.slice A' n c') ys ∧ Below w.heap.size w wr) (fun i _ => 20 - (intOf i).toNat)
        case atStart => exact ⟨0, xs, rfl, by omega, HN.out.symm, hown, hbw⟩
        case round =>
          obtain ⟨k, ys, rfl, hk, hyl, hown, hbw⟩ := hrel
          have HY := Lib.hid hyl
          clear hyl
          by_cases h1 : k < ch.length
          · by_cases h2 : k < ts.length
            · by_cases h3 : k < 20
              · by_cases h4 : 0 < n
                · obtain ⟨y0, hy0⟩ : ∃ y0, ch[k]? = some y0 := ⟨_, List.getElem?_eq_getElem h1⟩
                  obtain ⟨b1, off1, rfl, _, hat1⟩ := hch.flat (by omega)
                  obtain ⟨r, ⟨rfl, hr⟩, hc1⟩ := hat1 k y0 hy0
                  have d1 := below_cell hbw (hc1 0 _ rfl)
                  simp only [encU16, flatE, Nat.mul_one, Nat.add_zero] at d1
                  obtain ⟨b2, off2, z, rfl, hz, hc2⟩ := hto.at_ h2
                  have d2 := below_cell hbw hc2
                  have hl1 := World.block_lt_of_cell? w _ (hc1 0 _ rfl)
                  have hl2 := World.block_lt_of_cell? w _ hc2
                  simp only at hl1 hl2
                  obtain ⟨g, cc, e, hg1, hg2, hle, hcm', hcell⟩ := hown.flat (by rw [HY.out]; exact h4)
                  injection e with e1 e2 e3
                  subst e1
                  have hr' := Nat.lt_iff_add_one_le.1 (show y0 < 65536 from hr)
                  obtain ⟨p, hp⟩ : ∃ p, p = y0 % n := ⟨_, rfl⟩
                  have hpn : p < n := by rw [hp]; exact Nat.mod_lt _ h4
                  obtain ⟨q, hq⟩ : ∃ q, ys[p]? = some q := ⟨_, List.getElem?_eq_getElem (by rw [HY.out]; exact hpn)⟩
                  have d3 := hcell p q hq
                  have f3 := hown.free p
                  have hn0 : ((n : Int) == 0) = false := by rw [beq_eq_false_iff_ne]; omega
                  have hn1 : ¬ n = 0 := by omega
                  have hmod : (y0 : Int) % (n : Int) = (p : Int) := by rw [hp]; rfl
                  have htmod : (y0 : Int).tmod (n : Int) = (p : Int) := by rw [Int.tmod_eq_emod_of_nonneg (Int.natCast_nonneg _)]; exact hmod
                  have HP := Lib.hid hp
                  have HK3 := Lib.hid (show ∀ u, (wr.setCell ⟨g, p, none⟩ u).drew.cell? ⟨b1, off1 + k, none⟩ = some (.int .u16 (y0 : Int)) ∧ (wr.setCell ⟨g, p, none⟩ u).drew.cell? ⟨b2, off2 + k, none⟩ = some (.int .u8 (z.toNat : Int)) from fun u =>
                    ⟨(World.cell?_of_block (a := ⟨b1, off1 + k, none⟩) (heap_setCell_other wr ⟨g, p, none⟩ b1 u (by simp only; omega))).trans d1, (World.cell?_of_block (a := ⟨b2, off2 + k, none⟩) (heap_setCell_other wr ⟨g, p, none⟩ b2 u (by simp only; omega))).trans d2⟩)
                  have hwp : IntKind.i64.wrap (p : Int) = (p : Int) := IntWalk.i64_in _ (by omega)
                  have hwr : IntKind.i64.wrap (y0 : Int) = (y0 : Int) := IntWalk.i64_in _ (by omega)
                  have hwr2 : wrap64 (y0 : Int) = (y0 : Int) := IntWalk.wrap64_in _ (by omega)
                  clear hp hz hc2 hc1 hat1 hcell hq hy0 e2 e3 hle
                  go_wp2
                  go_region_held3 (fun w' => w'.cell? ⟨b1, off1 + k, none⟩ = some (.int .u16 (y0 : Int)) ∧ w'.cell? ⟨b2, off2 + k, none⟩ = some (.int .u8 (z.toNat : Int)))
                    (first
                      | with_reducible exact ⟨d1, d2⟩
                      | with_reducible exact ⟨below_cell bl.drew d1, below_cell bl.drew d2⟩
                      | with_reducible exact HK3.out _)
                    (fail)
                  go_wp2
                  go_roundw
                  case rel => exact ⟨k + 1, ys.set p z, by go_num, by omega, by rw [List.length_set]; exact HY.out, (hown.set p z).drew, (hbw.setCell hg1 _).drew⟩
                  case measure => simp [intOf]; omega
                · go_wp2
                  go_meet
                  case rel => exact ⟨rfl, ys, HY.out, hown, hbw⟩
              · go_wp2
                go_meet
                case rel => exact ⟨rfl, ys, HY.out, hown, hbw⟩
            · go_wp2
              go_meet
              case rel => exact ⟨rfl, ys, HY.out, hown, hbw⟩
          · go_wp2
            go_meet
            case rel => exact ⟨rfl, ys, HY.out, hown, hbw⟩
      case rest =>
        obtain ⟨rfl, ys, hyl, hown, hbw⟩ := hcut
        subst hyl
        have hry := hown.rd.1
        rcases openP_cases ys with ⟨f, hf1, hf2, ho⟩ | ⟨a0, a1, a2, a3, a4, hl, ho⟩
        · have HO := Lib.hid ho
          have hf0 : (f == 0) = false := by rw [beq_eq_false_iff_ne]; exact hf1
          have hf3 : (f != 0) = true := by rw [bne_iff_ne]; exact hf1
          clear ho hf1 hf2
          go_wp2_with (first
            | ((with_reducible show wpList _ _ _ (⟨some 81, _, _, _, _, _⟩ :: _) _ _); refine wpL_cloneB rfl (.tmp 79) (.tmp 80) rfl rfl A' _ c' ys rfl hry (by omega) ?_; intro v5 w5 hown5 hb5; obtain ⟨A5, c5, rfl, hr5, hl5, _⟩ := hown5.form; have hbw5 := nx hbw hb5)
            | (go_at_call 16; refine (sopen_any _ _ _ ys _ hr5 hl5 (by omega)).mono ?_; rw [HO.out]; rintro e w6 ⟨v6, rfl, hown6, hb6⟩; obtain ⟨A6, c6, rfl, _⟩ := hown6.form; have hbw6 := nx hbw5 hb6)
            | (go_at_call 17; refine (rsopen_any _ _ _ ys _ (hry.below (nx hb5 (nx hb6 (bS _ _)))) hlc (by omega)).mono ?_; rw [HO.out]; rintro e w7 ⟨v7, rfl, hown7, hb7⟩; have hbw7 := nx (nx hbw6 (bS _ _)) hb7; have q0 := below_cell hb7 (new_cell w6 _ _ 0); have q1 := below_cell hb7 (new_cell w6 _ _ 1); have q2 := below_cell hb7 (new_cell w6 _ _ 2); have q3 := below_cell hb7 (new_cell w6 _ _ 3); have q4 := below_cell hb7 (new_cell w6 _ _ 4); have hlt7 := World.block_lt_of_cell? w7 _ q0))
          go_ret
          exact ⟨rfl, hbw7.alloc hbw7.size _⟩
        · have HO := Lib.hid ho
          clear ho
          go_wp2_with (first
            | ((with_reducible show wpList _ _ _ (⟨some 81, _, _, _, _, _⟩ :: _) _ _); refine wpL_cloneB rfl (.tmp 79) (.tmp 80) rfl rfl A' _ c' ys rfl hry (by omega) ?_; intro v5 w5 hown5 hb5; obtain ⟨A5, c5, rfl, hr5, hl5, _⟩ := hown5.form; have hbw5 := nx hbw hb5)
            | (go_at_call 16; refine (sopen_any _ _ _ ys _ hr5 hl5 (by omega)).mono ?_; rw [HO.out]; rintro e w6 ⟨v6, rfl, hown6, hb6⟩; obtain ⟨A6, c6, rfl, hr6, _⟩ := hown6.form; have hbw6 := nx hbw5 hb6)
            | (go_at_call 17; refine (rsopen_any _ _ _ ys _ (hry.below (nx hb5 (nx hb6 (bS _ _)))) hlc (by omega)).mono ?_; rw [HO.out]; rintro e w7 ⟨v7, rfl, hown7, hb7⟩; have hbw7 := nx (nx hbw6 (bS _ _)) hb7; have q0 := below_cell hb7 (new_cell w6 _ _ 0); have q1 := below_cell hb7 (new_cell w6 _ _ 1); have q2 := below_cell hb7 (new_cell w6 _ _ 2); have q3 := below_cell hb7 (new_cell w6 _ _ 3); have q4 := below_cell hb7 (new_cell w6 _ _ 4); have hlt7 := World.block_lt_of_cell? w7 _ q0; obtain ⟨A7, c7, rfl, hr7, _⟩ := hown7.form)
            | (go_at_call 18; refine (same_any _ _ _ _ _ _ (dataP ys) (dataP ys) _ (hr6.below (nx (nx (bS _ _) hb7) (bS _ _))) (hr7.below (bS _ _)) (by unfold maxLen; omega) (by unfold maxLen; omega)).mono ?_; rintro e w8 ⟨rfl, k8, rfl⟩))
          go_ret
          exact ⟨rfl, dN (hbw7.alloc hbw7.size _) k8⟩
end Go.Proofs.Ytjpkddmdhdmhgaa
