/- PickFair: the law's walk. -/
import Derived.Test.YtnhjfdgdjfndiaaNote
import Derived.Test.YtnhjfdgdjfndiaaLaw19N
import Derived.Test.YtnhjfdgdjfndiaaFairPlain
import Derived.Deep.RegionHeld3
namespace Go.Proofs.Ytnhjfdgdjfndiaa
open Go.RowKit

theorem fair_none_yet (n most : Nat) : Fair n most (fun _ => 0) 0 :=
  ⟨fun _ _ => Nat.zero_le _, fun _ _ _ _ => Nat.zero_le _, by have := sumTo_le (cs := fun _ => 0) (n := n) (m := 0) (fun _ _ => Nat.le_refl _); omega⟩
theorem lit1 (w : World) (k : Nat) (hk : k < 256) : RdB (w.alloc (.cells #[.int .u8 (k : Int)] 5)) (some ⟨w.heap.size, 0, none⟩) 1 [UInt8.ofNat k] := by
  have h := lit_rd w [UInt8.ofNat k] (by simp [maxLen])
  have e : ([UInt8.ofNat k].map bV).toArray = #[.int .u8 (k : Int)] := by simp [bV]; omega
  rw [e] at h
  exact h
theorem fair_addr {n : Nat} {cs : Nat → Nat} : ∀ t ∈ fair n cs, t.addr.length ≤ 140737488355328 := by
  intro t ht
  simp only [fair, List.mem_map] at ht
  obtain ⟨k, _, rfl⟩ := ht
  simp
theorem u16_at {w : World} {A : Option Addr} {n : Nat} {ds : List Nat} (h : RdE encU16 w A n ds) (hn : 0 < n) : ∃ b off, A = some ⟨b, off, none⟩ ∧ b < w.heap.size ∧ ∀ (i d : Nat), ds[i]? = some d → w.cell? ⟨b, off + i, none⟩ = some (.int .u16 (d : Int)) ∧ d < 65536 := by
  obtain ⟨b, off, e, hb, hx⟩ := h.flat hn
  refine ⟨b, off, e, hb, fun i d hd => ?_⟩
  obtain ⟨r, ⟨rfl, hlt⟩, hc⟩ := hx i d hd
  have := hc 0 _ rfl
  have e1 : i * encU16.size = i := Nat.mul_one i
  rw [e1] at this
  exact ⟨this, hlt⟩

set_option maxRecDepth 100000 in
set_option maxHeartbeats 1000000 in
theorem pickFair_walk (x0 x1 : Nat) (A : Option Addr) (n c : Nat) (ds : List Nat) (w : World) (ht : RdE encU16 w A n ds) (h0 : x0 < 256) (h1 : x1 < 256) :
    Calls Try.prog 13 #[.int .u8 (x0 : Int), .int .u8 (x1 : Int), .slice A n c] w (LawT w) := by
  have hlt := ht.len
  subst hlt
  obtain ⟨nS, hnS⟩ : ∃ nS, nS = x0 % 9 + 1 := ⟨_, rfl⟩
  obtain ⟨mo, hmo⟩ : ∃ mo, mo = x1 % 5 + 1 := ⟨_, rfl⟩
  have e0 : (x0 : Int) % 9 = (nS : Int) - 1 := by omega
  have e1 : (x1 : Int) % 5 = (mo : Int) - 1 := by omega
  have hn1 : 1 ≤ nS := by omega
  have hn9 : nS ≤ 9 := by omega
  have hm1 : 1 ≤ mo := by omega
  have hm5 : mo ≤ 5 := by omega
  clear hnS hmo
  go_enter Try.func13, Try.ntmps13
  go_wp2
  clear e0 e1
  go_loopw [9, 10] (fun v i wr => ∃ k : Nat, i = .int .i64 k ∧ k ≤ nS ∧ NewE encT 36 w.heap.size wr v (fair k fun _ => 0) ∧ Below w.heap.size w wr) (fun _ i _ => nS - (intOf i).toNat)
  case atStart => exact ⟨0, rfl, Nat.zero_le _, ⟨noS, OwnE.nil _ _ _ _, fun b h => h.elim⟩, bl⟩
  case round =>
    obtain ⟨k, rfl, hk, ⟨S, hown, hS⟩, hbw⟩ := hrel
    by_cases hlt' : k < nS
    · have hk256 : (k : Int) < 256 := by omega
      have hbx : Below wr.heap.size wr (wr.alloc (.cells #[.int .u8 (k : Int)] 5)) := bl.alloc (Nat.le_refl _) _
      go_wp2_with ((with_reducible show wpList _ _ _ (⟨some 34, _, _, _, _, _⟩ :: _) _ _); refine wpL_pushE elT rfl (.tmp 28) (.tmp 33) rfl w.heap.size _ (fair k fun _ => 0) rfl (hown.below hbx) _ ⟨[UInt8.ofNat k], 0, false⟩ (S' := btS wr.heap.size (wr.heap.size + 1)) ⟨_, _, 1, rfl, bytes_els (lit1 wr k (by omega)) (fun b off e => by cases e; exact ⟨Nat.le_refl _, Nat.lt_succ_self _⟩), by simp, by unfold maxLen; omega, by simp, by simp⟩ ?hS rfl ?hb ?hl ?hbase ?_; rotate_right; intro v3 w3 hown3 hg3 hat3)
      · go_roundw
        case rel => 
          refine ⟨k + 1, by go_num, by omega, ⟨_, by rw [fair_succ]; exact hown3, fun x hx => ?_⟩, (nx hbw hbx).grown hg3 (by simp; have := hbw.size; omega) (fun j hj => (hown.lt j hj).1)⟩
          rcases hx with hx | hx
          · exact hS x hx
          · have := hx.1; have := hbw.size; omega
        case measure => simp [intOf]; omega
      case hS =>
        intro x hx
        refine ⟨by simp; exact hx.2, fun he => ?_⟩
        have := (hown.lt x he.symm).2
        have := hx.1
        omega
      case hb => rw [fair_length]; omega
      case hl => rw [fair_length]; unfold maxLen; omega
      case hbase => simp; have := hbw.size; omega
    · obtain rfl : nS = k := by omega
      by_cases h3 : 200 < ds.length
      · go_wp2_with (go_at_call 21; refine (answers19_any _).mono ?_; rintro e w1 ⟨rfl, hb1⟩; have hbw := nx hbw hb1)
        go_ret
        exact ⟨rfl, hbw⟩
      · go_wp2_with (go_at_call 21; refine (answers19_any _).mono ?_; rintro e w1 ⟨rfl, hb1⟩; have hbw1 := nx hbw hb1; have hown1 := hown.below hb1)
        clear hbw hown hb1
        go_loopw [9, 11, 12, 13, 14] (fun v i _ _ _ wr => ∃ (k : Nat) (cs : Nat → Nat), i = .int .i64 k ∧ k ≤ ds.length ∧ Fair nS mo cs k ∧ NewE encT 36 w.heap.size wr v (fair nS cs) ∧ Below w.heap.size w wr) (fun _ i _ _ _ _ => ds.length - (intOf i).toNat)
        case atStart => exact ⟨0, fun _ => 0, rfl, Nat.zero_le _, fair_none_yet nS mo, ⟨S, hown1, hS⟩, hbw1⟩
        case round =>
          obtain ⟨i, cs, rfl, hi, hfair, ⟨S2, hown2, hS2⟩, hbwr⟩ := hrel
          by_cases hil : i < ds.length
          · obtain ⟨b, off, rfl, hb0, hat⟩ := u16_at ht (by omega)
            obtain ⟨d, hd⟩ : ∃ d, ds[i]? = some d := ⟨_, List.getElem?_eq_getElem hil⟩
            obtain ⟨hcd, hd16⟩ := hat i d hd
            have d1 := below_cell hbwr hcd
            obtain ⟨A2, c2, rfl, hr2, _⟩ := hown2.rdE
            obtain ⟨ts, hts⟩ : ∃ ts, ts = fair nS cs := ⟨_, rfl⟩
            have hta : ∀ t ∈ ts, t.addr.length ≤ 140737488355328 := by rw [hts]; exact fair_addr
            have htl : Hid (ts.length = nS) := by show _ = _; rw [hts, fair_length]
            have hstep := fair_step hfair hn9 hm5 (d : Int)
            rw [← hts] at hr2 hstep hown2 ⊢
            rw [htl.out] at hr2 hown2 ⊢
            clear hat hd hts hfair ht
            have hwd : IntKind.i64.wrap (d : Int) = d := IntWalk.i64_in _ (by omega)
            have hi0 : (0 : Int) ≤ (i : Int) := by omega
            have hil' : (i : Int) < (ds.length : Int) := by omega
            obtain ⟨pm, hpm⟩ : ∃ pm, pm = nS * mo := ⟨_, rfl⟩
            have hpm' : (nS : Int) * (mo : Int) = (pm : Int) := by rw [hpm]; simp
            have hpm45 : pm ≤ 45 := by rw [hpm]; exact Nat.le_trans (Nat.mul_le_mul hn9 hm5) (by omega)
            rw [← hpm] at hstep
            clear hpm
            rcases hstep with ⟨hnp, hle⟩ | ⟨k, hk, hnp, hltm, hnote, hfair'⟩
            · go_wp2
              go_region_held3 (fun w' => w'.cell? ⟨b, off + i, none⟩ = some (.int .u16 (d : Int)))
                (first
                  | exact f3
                  | exact f2
                  | go_keep)
                (first
                  | (go_at_call 23; refine (own19_any _ _ _ ts _ (by first | exact hr2 | exact hr2.drewN 1) (by omega) hta).mono ?_; rintro e w3 ⟨v3, rfl, ⟨S3, hown3, hS3⟩, hb3⟩; have hbw3 : Below w.heap.size w w3 := (by first | exact nx hbwr (nx bl.drew hb3) | exact nx hbwr hb3); have hk3 : Below wr.heap.size wr w3 := (by first | exact nx bl.drew hb3 | exact hb3); have f2 := below_cell hbw3 hcd; obtain ⟨A3, c3, rfl, hr3, _⟩ := hown3.rdE)
                  | (go_at_call 22; refine (next_any _ _ _ ts _ _ _ hr3 (by rw [htl.out]; omega)).mono ?_; rintro e w4 ⟨v4, rfl, hv, hb4⟩; rw [hnp] at hv; subst hv; have hbw4 := nx hbw3 hb4; have hk4 := nx hk3 hb4; have f3 := below_cell hbw4 hcd))
              go_wp2
              go_ret
              exact ⟨rfl, hbw4⟩
            · go_wp2
              go_region_held3 (fun w' => w'.cell? ⟨b, off + i, none⟩ = some (.int .u16 (d : Int)))
                (first
                  | exact f3
                  | exact f2
                  | go_keep)
                (first
                  | (go_at_call 23; refine (own19_any _ _ _ ts _ (by first | exact hr2 | exact hr2.drewN 1) (by omega) hta).mono ?_; rintro e w3 ⟨v3, rfl, ⟨S3, hown3, hS3⟩, hb3⟩; have hbw3 : Below w.heap.size w w3 := (by first | exact nx hbwr (nx bl.drew hb3) | exact nx hbwr hb3); have hk3 : Below wr.heap.size wr w3 := (by first | exact nx bl.drew hb3 | exact hb3); have f2 := below_cell hbw3 hcd; obtain ⟨A3, c3, rfl, hr3, _⟩ := hown3.rdE)
                  | (go_at_call 22; refine (next_any _ _ _ ts _ _ _ hr3 (by rw [htl.out]; omega)).mono ?_; rintro e w4 ⟨v4, rfl, hv, hb4⟩; rw [hnp] at hv; subst hv; have hbw4 := nx hbw3 hb4; have hk4 := nx hk3 hb4; have f3 := below_cell hbw4 hcd))
              obtain ⟨cs', hcs'⟩ : ∃ cs', cs' = upd cs k := ⟨_, rfl⟩
              rw [← hcs'] at hnote hfair'
              clear hcs' f2 f3 d1
              have hown4 := hown2.below hk4
              have hkm : ((k : Int) == -1) = false := by rw [beq_eq_false_iff_ne]; omega
              have hpi : decide (pm ≤ i) = false := by rw [decide_eq_false_iff_not]; omega
              have hkn : decide (nS ≤ k) = false := by rw [decide_eq_false_iff_not]; omega
              have hr4 := hr2.below hk4
              go_wp2_with (go_at_call 33; refine (note_any _ _ _ ts _ _ _ [UInt8.ofNat k] _ _ (hr4.below (bl.alloc (Nat.le_refl _) _)) (by omega) hta (lit1 w4 k (by omega)) (by omega)).mono ?_; rintro e w5 ⟨v5, rfl, ⟨S5, hown5, hS5⟩, hb5⟩; have hbw5 := nx hbw4 (nx (bl.alloc (Nat.le_refl _) _) hb5))
              clear hown4 hr4 hown2 hr2 hown3 hr3 hb3 hb4 hk3 hk4 hnp hkm hpi hkn
              rw [hnote] at hown5
              obtain ⟨A5, c5, rfl, hr5, _⟩ := hown5.rdE
              rw [fair_length] at hr5 ⊢
              have hown6 := hown5.base_le (base' := w.heap.size) (by have := hbw4.size; simp; omega)
              rw [fair_length] at hown6
              have hS6 : ∀ b, S5 b → w.heap.size ≤ b := fun b hb => by have := hS5 b hb; have := hbw4.size; simp at *; omega
              obtain ⟨b5, off5, rfl, _, hat5⟩ := encT_at hr5 (by omega)
              clear hown5 hS5 hb5 hr5 hnote
              go_loopw [13, 14] (fun a _ wr => ∃ k : Nat, a = .int .i64 k ∧ k ≤ nS ∧ Below w5.heap.size w5 wr) (fun a _ _ => nS - (intOf a).toNat)
              case atStart => exact ⟨0, rfl, Nat.zero_le _, bl⟩
              case round =>
                obtain ⟨a, rfl, ha, hbw6⟩ := hrel
                by_cases hal : a < nS
                · obtain ⟨_, _, _, _, ca, _⟩ := hat5 a _ (fair_at cs' hal)
                  have hca1 := hfair'.1 a hal
                  go_wp2
                  go_loopw [14] (fun q wr => ∃ k : Nat, q = .int .i64 k ∧ k ≤ nS ∧ Below w5.heap.size w5 wr) (fun q _ => nS - (intOf q).toNat)
                  case atStart => exact ⟨0, rfl, Nat.zero_le _, hbw6⟩
                  case round =>
                    obtain ⟨q, rfl, hq, hbw7⟩ := hrel
                    by_cases hql : q < nS
                    · obtain ⟨_, _, _, _, cq, _⟩ := hat5 q _ (fair_at cs' hql)
                      have gq := below_cell hbw7 cq
                      have ga := below_cell hbw7 ca
                      have hcc := hfair'.2.1 a q hal hql
                      have hcq1 := hfair'.1 q hql
                      simp only at gq ga
                      obtain ⟨va, hva⟩ : ∃ v, v = cs' a := ⟨_, rfl⟩
                      obtain ⟨vq, hvq⟩ : ∃ v, v = cs' q := ⟨_, rfl⟩
                      rw [← hva] at ga hca1 hcc
                      rw [← hvq] at gq hcq1 hcc
                      clear hva hvq
                      have ha0 : (0 : Int) ≤ (a : Int) := by omega
                      have hal' : (a : Int) < (nS : Int) := by omega
                      have hq0 : (0 : Int) ≤ (q : Int) := by omega
                      have hql' : (q : Int) < (nS : Int) := by omega
                      have hgu : decide ((vq : Int) + 1 < (va : Int)) = false := by rw [decide_eq_false_iff_not]; omega
                      have hgu2 : decide (vq + 1 < va) = false := by rw [decide_eq_false_iff_not]; omega
                      have hgm : decide ((mo : Int) < (va : Int)) = false := by rw [decide_eq_false_iff_not]; omega
                      have hgm2 : decide (mo < va) = false := by rw [decide_eq_false_iff_not]; omega
                      have hwq : IntKind.i64.wrap ((vq : Int) + 1) = (vq : Int) + 1 := IntWalk.i64_in _ (by omega)
                      go_wp2
                      go_quiet (fail)
                      clear hwq hgu hgm hgu2 hgm2
                      go_wp2
                      go_roundw
                      case rel => exact ⟨q + 1, by go_num, by omega, dN hbw7 _⟩
                      case measure => simp [intOf]; omega
                    · obtain rfl : q = nS := by omega
                      go_wp2
                      go_roundw
                      case rel => exact ⟨a + 1, by go_num, by omega, hbw7⟩
                      case measure => simp [intOf]; omega
                · obtain rfl : a = nS := by omega
                  go_wp2
                  go_roundw
                  case rel => exact ⟨i + 1, cs', by go_num, by omega, hfair', ⟨S5, hown6.below hbw6, hS6⟩, nx hbw5 hbw6⟩
                  case measure => simp [intOf]; omega
          · obtain rfl : i = ds.length := by omega
            go_wp2
            go_ret
            exact ⟨rfl, hbwr⟩
end Go.Proofs.Ytnhjfdgdjfndiaa
