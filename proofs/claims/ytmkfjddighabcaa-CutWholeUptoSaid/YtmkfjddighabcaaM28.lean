/- Parts of a proof, joined: Light7. -/
import Derived.Test.YtmkfjddighabcaaM15
import Derived.Test.YtmkfjddighabcaaM12
import Derived.Test.YtmkfjddighabcaaM16
/- gazetteerlaw07.light: is a message not too large? -/
namespace Go.Proofs.Ytmkfjddighabcaa
open Go.RowKit
set_option maxRecDepth 100000


structure LtMsg7 (m : Ms) : Prop where
  all : (m.an ++ m.au ++ m.ex).length ≤ 150
  qs : m.qs.length ≤ 150
  r : ∀ r ∈ m.an ++ m.au ++ m.ex, Lt6 r
  q : ∀ q ∈ m.qs, q.name.length ≤ 200
  b : bytesM m < 200000
open Classical in
noncomputable def ltM7 (m : Ms) : Bool := decide (LtMsg7 m)
open Classical in
theorem ltM7_yes {m : Ms} (h : LtMsg7 m) : ltM7 m = true := decide_eq_true h
open Classical in
theorem ltM7_no {m : Ms} (h : ¬ LtMsg7 m) : ltM7 m = false := decide_eq_false h
open Classical in
theorem ltM7_iff {m : Ms} : ltM7 m = true ↔ LtMsg7 m := decide_eq_true_iff
theorem bytesM_all7 (m : Ms) : bytesM m = bytesL (m.an ++ m.au ++ m.ex) := by unfold bytesM; rw [bytesL_append, bytesL_append]

set_option maxHeartbeats 8000000 in
theorem light07_any (s : MS) (m : Ms) (w : World) {S : Nat → Prop} (h : MIn S w s m) (hS : ∀ b, S b → b < w.heap.size) (hq : m.qs.length ≤ 140737488355328) (hlen : (m.an.length + m.au.length + m.ex.length) * 168 ≤ 140737488355328) (hby : ∀ r ∈ m.an ++ m.au ++ m.ex, r.data.bytes.length ≤ 140737488355328) :
    Calls Try.prog 30 #[msV s m] w (RetP (fun v _ => v = .bool (ltM7 m)) w) := by
  obtain ⟨w1, hw1⟩ : ∃ w1, w1 = w.alloc (.cells (mCells s m) 25) := ⟨_, rfl⟩
  have hb1 : Below w.heap.size w w1 := by rw [hw1]; exact bl.alloc (Nat.le_refl _) _
  have HRW : Hid (MRow w1 w.heap.size s m) := by show MRow _ _ _ _; rw [hw1]; exact MRow.made w s m
  have HI := Lib.hid (h.below hb1 hS)
  have HSW : Hid (∀ b, S b → b < w1.heap.size) := fun b hb => Nat.lt_of_lt_of_le (hS b hb) hb1.size
  have HBW1 := Lib.hid hb1
  have HLEN := Lib.hid hlen
  have HBY := Lib.hid hby
  unfold msV
  unfold mCells at hw1 ⊢
  clear h hS hb1 hlen hby
  go_enter Try.func30, Try.ntmps30
  go_upto_region 1 with (fail)
  rw [← hw1]
  clear hw1
  generalize w.heap.size = q at HRW ⊢
  have k0 : ∀ w', Below w1.heap.size w1 w' → w'.cell? ⟨q, 9, none⟩ = some (.slice s.A m.an.length s.ac) ∧ w'.cell? ⟨q, 10, none⟩ = some (.slice s.U m.au.length s.uc) ∧ w'.cell? ⟨q, 11, none⟩ = some (.slice s.X m.ex.length s.xc) := fun w' hb => ⟨((HRW.out.below hb).cell 9).trans rfl, ((HRW.out.below hb).cell 10).trans rfl, ((HRW.out.below hb).cell 11).trans rfl⟩
  have z0 := k0 w1 bl
  have z1 := k0 w1.drew bl.drew
  have z2 := k0 (w1.alloc (.cells #[] 44)) (bl.alloc (Nat.le_refl _) _)
  have z3 := k0 (w1.alloc (.cells #[] 44)).drew (bl.alloc (Nat.le_refl _) _).drew
  have KK := Lib.hid k0
  have hbase0 : w1.heap.size ≤ (w1.alloc (.cells #[] 44)).drew.heap.size := (bl.alloc (Nat.le_refl _) (.cells #[] 44)).drew.size
  have hown0 : OwnE encRR 44 noS (w1.alloc (.cells #[] 44)).drew w1.heap.size (.slice (some ⟨w1.heap.size, 0, none⟩) 0 0) [] := (ownE_lit0 (fun _ h => h.elim) (Nat.le_refl _)).below bl.drew
  have HBX : Hid (Below w1.heap.size w1 (w1.alloc (.cells #[] 44)).drew) := (bl.alloc (Nat.le_refl _) _).drew
  have hsS : ∀ (w' : World) (v : Value), Below w1.heap.size w1 w' → (∀ k, v.ownBlock = some k → w1.heap.size ≤ k) → ∀ b, S b → b < w'.heap.size ∧ some b ≠ v.ownBlock := fun w' v hb hv b hs => ⟨Nat.lt_of_lt_of_le (HSW.out b hs) hb.size, fun he => by have h1 := hv b he.symm; have h2 := HSW.out b hs; omega⟩
  have HSS := Lib.hid hsS
  have HHO := Lib.hid hown0
  have hA1 : (([] : List RR).length + m.an.length) * 168 ≤ 140737488355328 := by have := HLEN.out; simp; omega
  have hA2 : ([] ++ m.an).length * 168 + m.au.length * 168 ≤ 140737488355328 := by have := HLEN.out; simp; omega
  have hA3 : ([] ++ m.an ++ m.au).length * 168 + m.ex.length * 168 ≤ 140737488355328 := by have := HLEN.out; simp; omega
  have hM1 : ([] : List RR).length + m.an.length ≤ maxLen := by have := HLEN.out; simp [maxLen]; omega
  have hM2 : ([] ++ m.an).length + m.au.length ≤ maxLen := by have := HLEN.out; simp [maxLen]; omega
  have hM3 : ([] ++ m.an ++ m.au).length + m.ex.length ≤ maxLen := by have := HLEN.out; simp [maxLen]; omega
  have HA := Lib.hid (And.intro hA1 (And.intro hA2 hA3))
  have HM := Lib.hid (And.intro hM1 (And.intro hM2 hM3))
  clear k0 hsS hA1 hA2 hA3 hM1 hM2 hM3
  go_upto_region 1 with (fail)
  go_region_held3 (fun w' => w'.cell? ⟨q, 9, none⟩ = some (.slice s.A m.an.length s.ac) ∧ w'.cell? ⟨q, 10, none⟩ = some (.slice s.U m.au.length s.uc) ∧ w'.cell? ⟨q, 11, none⟩ = some (.slice s.X m.ex.length s.xc))
    (first | with_reducible exact z0 | with_reducible exact z1 | with_reducible exact z2 | with_reducible exact z3 | with_reducible exact z4 | with_reducible exact z5 | with_reducible exact z6 | fail)
    (first
      | (refine step_appE (w := u2) elRR (by rfl) (.tmp 14) (.tmp 16) (by rfl) w1.heap.size v2 ([] ++ m.an ++ m.au) (by rfl) hown2 s.X m.ex.length s.xc m.ex (HI.out.x.keep (fun b hb => HB2.out.block b (HSW.out b hb)) (fun b hb => HB2.out.block b (HSW.out b hb))) (HSS.out _ _ HB2.out (fun k hk => (OwnE.lt hown2 k hk).1)) (by rfl) (by have h := HA.out.2.2; rw [Nat.add_mul]; exact h) HM.out.2.2 (Nat.le_trans (Nat.le_refl _) HB2.out.size) ?_; intro v3 u3 hown3 hg3 hat3; have HB3 : Hid (Below w1.heap.size w1 u3) := (Below.grown HB2.out hg3 HB2.out.size (fun k hk => (OwnE.lt hown2 k hk).1)); have z6 := KK.out u3 HB3.out; clear hat3 hg3)
      | (refine step_appE (w := u1) elRR (by rfl) (.tmp 11) (.tmp 13) (by rfl) w1.heap.size v1 ([] ++ m.an) (by rfl) hown1 s.U m.au.length s.uc m.au (HI.out.u.keep (fun b hb => HB1.out.block b (HSW.out b hb)) (fun b hb => HB1.out.block b (HSW.out b hb))) (HSS.out _ _ HB1.out (fun k hk => (OwnE.lt hown1 k hk).1)) (by rfl) (by have h := HA.out.2.1; rw [Nat.add_mul]; exact h) HM.out.2.1 (Nat.le_trans (Nat.le_refl _) HB1.out.size) ?_; intro v2 u2 hown2 hg2 hat2; have HB2 : Hid (Below w1.heap.size w1 u2) := (Below.grown HB1.out hg2 HB1.out.size (fun k hk => (OwnE.lt hown1 k hk).1)); have z5 := KK.out u2 HB2.out; clear hat2 hg2)
      | (refine step_appE (w := (w1.alloc (.cells #[] 44)).drew) elRR (by rfl) (.tmp 8) (.tmp 10) (by rfl) w1.heap.size (.slice (some ⟨w1.heap.size, 0, none⟩) 0 0) ([]) (by rfl) HHO.out s.A m.an.length s.ac m.an (HI.out.a.keep (fun b hb => HBX.out.block b (HSW.out b hb)) (fun b hb => HBX.out.block b (HSW.out b hb))) (HSS.out _ _ HBX.out (fun k hk => (OwnE.lt HHO.out k hk).1)) (by rfl) HA.out.1 HM.out.1 (Nat.le_trans (Nat.le_refl _) HBX.out.size) ?_; intro v1 u1 hown1 hg1 hat1; have HB1 : Hid (Below w1.heap.size w1 u1) := (Below.grown HBX.out hg1 HBX.out.size (fun k hk => (OwnE.lt HHO.out k hk).1)); have z4 := KK.out u1 HB1.out; clear hat1 hg1)
      | fail)
  rw [List.nil_append] at hown3
  obtain ⟨A3, c3, hv3, hr3, _, _⟩ := OwnE.rdE hown3
  obtain ⟨n, hn⟩ : ∃ n, n = (m.an ++ m.au ++ m.ex).length := ⟨_, rfl⟩
  have HN := Lib.hid hn
  have hn2 : n * 168 ≤ 140737488355328 := by rw [hn, List.length_append, List.length_append]; exact HLEN.out
  rw [← hn] at hv3 hr3
  subst hv3
  have HR3 := Lib.hid hr3
  have HALL := Lib.hid (bytesM_all7 m)
  have HLT : Hid (∀ h : LtMsg7 m, ∀ r ∈ m.an ++ m.au ++ m.ex, Lt6 r) := fun h => h.r
  have HLA : Hid (LtMsg7 m → n ≤ 150) := fun h => by rw [hn]; exact h.all
  have HYES : Hid (n ≤ 150 → m.qs.length ≤ 150 → (∀ r ∈ m.an ++ m.au ++ m.ex, Lt6 r) → (∀ q ∈ m.qs, q.name.length ≤ 200) → bytesL (m.an ++ m.au ++ m.ex) < 200000 → LtMsg7 m) := fun h1 h2 h3 h4 h5 => ⟨by rw [← hn]; exact h1, h2, h3, h4, by rw [bytesM_all7]; exact h5⟩
  clear z0 z1 z2 z3 z4 z5 z6 hown0 hown1 hown2 hown3 hr3 hn HA HHO HSS HBX hbase0 HB1 HB2
  generalize m.an ++ m.au ++ m.ex = l at HBY HN HR3 HALL HLT HYES

  clear HLEN
  have HB0 := Lib.hid (nx HBW1.out HB3.out)
  have HR1 := Lib.hid (HRW.out.below HB3.out)
  obtain ⟨z0, z1, z2, z3, z4, z5, z6, z7, z8, z9, z10, z11, z12, z13⟩ := HR1.out.cells
  by_cases a0 : (n : Int) ≤ 150
  · by_cases a1 : (m.qs.length : Int) ≤ 150
    · go_wp2
      clear z0 z1 z2 z3 z4 z5 z6 z7 z8 z9 z10 z11 z12 z13
      go_loopw [4, 5] (fun sv iv wr => ∃ k : Nat, iv = .int .i64 k ∧ k ≤ n ∧ sv = .int .i64 (bytesL (l.take k) : Int) ∧ Hid (∀ r ∈ l.take k, Lt6 r) ∧ Hid (Below u3.heap.size u3 wr)) (fun _ iv _ => n - (intOf iv).toNat)
      case atStart => exact ⟨0, rfl, Nat.zero_le _, rfl, fun r hr => by simp at hr, bl⟩
      case round =>
        obtain ⟨k, rfl, hk, rfl, HF, HBR⟩ := hrel
        have hbk : bytesL (l.take k) ≤ 140737488355328 * k := by
          have h1 := bytesL_bnd (l := l.take k) (B := 140737488355328) (fun r hr => HBY.out r (List.mem_of_mem_take hr))
          have h2 : (l.take k).length ≤ k := List.length_take_le _ _
          exact Nat.le_trans h1 (Nat.mul_le_mul_left _ h2)
        by_cases hlt : k < n
        · obtain ⟨r, hr⟩ : ∃ r, l[k]? = some r := ⟨_, List.getElem?_eq_getElem (by rw [← HN.out]; exact hlt)⟩
          have HX := Lib.hid hr
          have HMEM := Lib.hid (List.mem_of_getElem? hr)
          have HSU := Lib.hid (bytesL_succ hr)
          have hbr := HBY.out r HMEM.out
          have HBRR := Lib.hid hbr
          obtain ⟨b, off, t, hA, hb0, hri, hrc⟩ := rr_at HR3.out hr
          have hAA := Lib.hid hA
          rw [hA]
          have hbx : Below wr.heap.size wr (wr.alloc (.cells #[.slice t.d.A0 r.data.bytes.length t.d.c0, .slice t.d.A1 r.data.host.length t.d.c1, .slice t.d.A2 r.data.mail.length t.d.c2, .slice t.d.A3 r.data.nums.length t.d.c3, .slice t.d.A4 r.data.texts.length t.d.c4] 42)) := bl.alloc (Nat.le_refl _) _
          have hrc1 := hrc.below HBR.out
          have hrc2 := hrc1.below hbx
          obtain ⟨d0, d1, d2, d3, d4, d5, d6, d7, d8⟩ := hrc1
          obtain ⟨e0, e1, e2, e3, e4, e5, e6, e7, e8⟩ := hrc2
          have HBX := Lib.hid (nx HBR.out hbx)
          have HBB := Lib.hid (nx HB0.out (nx HBR.out hbx))
          clear hr hri hrc hA hb0 hbx hbr
          generalize bytesL (l.take k) = z at hbk HSU ⊢
          by_cases t0 : (r.name.length : Int) ≤ 200
          · skip
            by_cases t1 : (r.data.host.length : Int) ≤ 200
            · skip
              by_cases t2 : (r.data.mail.length : Int) ≤ 200
              · skip
                by_cases t3 : (r.data.texts.length : Int) ≤ 100
                · skip
                  by_cases t4 : (r.data.nums.length : Int) ≤ 100
                  · skip
                    have hbr2 := HBRR.out
                    go_wp2
                    go_roundw
                    case rel =>
                      refine ⟨k + 1, by go_num, by omega, by rw [HSU.out]; go_num, allp_take HX.out HF.out ⟨by omega, by omega, by omega, by omega, by omega⟩, HBX.out⟩
                    case measure => simp [intOf]; omega
                  · skip
                    have HNO : Hid (¬ LtMsg7 m) := fun h => by have h1 := (HLT.out h r HMEM.out).2.2.2.2; omega
                    go_wp2
                    go_ret
                    exact ⟨_, rfl, by show Value.bool _ = Value.bool _; rw [ltM7_no HNO.out], HBB.out⟩
                · skip
                  have HNO : Hid (¬ LtMsg7 m) := fun h => by have h1 := (HLT.out h r HMEM.out).2.2.2.1; omega
                  go_wp2
                  go_ret
                  exact ⟨_, rfl, by show Value.bool _ = Value.bool _; rw [ltM7_no HNO.out], HBB.out⟩
              · skip
                have HNO : Hid (¬ LtMsg7 m) := fun h => by have h1 := (HLT.out h r HMEM.out).2.2.1; omega
                go_wp2
                go_ret
                exact ⟨_, rfl, by show Value.bool _ = Value.bool _; rw [ltM7_no HNO.out], HBB.out⟩
            · skip
              have HNO : Hid (¬ LtMsg7 m) := fun h => by have h1 := (HLT.out h r HMEM.out).2.1; omega
              go_wp2
              go_ret
              exact ⟨_, rfl, by show Value.bool _ = Value.bool _; rw [ltM7_no HNO.out], HBB.out⟩
          · skip
            have HNO : Hid (¬ LtMsg7 m) := fun h => by have h1 := (HLT.out h r HMEM.out).1; omega
            go_wp2
            go_ret
            exact ⟨_, rfl, by show Value.bool _ = Value.bool _; rw [ltM7_no HNO.out], HBB.out⟩
        · obtain rfl : k = n := by omega
          have htk : l.take k = l := by rw [HN.out, List.take_length]
          rw [htk] at HF hbk ⊢
          have HFA := Lib.hid HF.out
          have hk6 : k ≤ 150 := by omega
          have HK6 := Lib.hid hk6
          rename World => wa
          have HRB := Lib.hid (HR1.out.below HBR.out)
          generalize bytesL l = z at hbk HALL HYES ⊢
          clear htk hlt hk
          go_wp2_with fail
          go_loopw [7] (fun iv wr => ∃ j : Nat, iv = .int .i64 j ∧ j ≤ m.qs.length ∧ Hid (∀ q ∈ m.qs.take j, q.name.length ≤ 200) ∧ Hid (Below wa.heap.size wa wr)) (fun iv _ => m.qs.length - (intOf iv).toNat)
          case atStart => exact ⟨0, rfl, Nat.zero_le _, fun r hr => by simp at hr, bl⟩
          case round =>
            obtain ⟨j, rfl, hj, HG, HBA⟩ := hrel
            have z8 : wr.cell? ⟨q, 8, none⟩ = some (.slice s.Q m.qs.length s.qc) := ((HRB.out.below HBA.out).cell 8).trans rfl
            have HBB := Lib.hid (nx (nx HB0.out HBR.out) HBA.out)
            by_cases hlj : j < m.qs.length
            · obtain ⟨x, hx⟩ : ∃ x, m.qs[j]? = some x := ⟨_, List.getElem?_eq_getElem hlj⟩
              obtain ⟨b, off, t, hA, _, hd, hc⟩ := qu_at HI.out.q hx
              have HXX := Lib.hid hx
              rw [hA] at z8
              obtain ⟨d0, d1, d2⟩ := (hc.below (nx HB3.out (nx HBR.out HBA.out)))
              have HMQ := Lib.hid (List.mem_of_getElem? hx)
              clear hx hA hd hc
              by_cases t0 : (x.name.length : Int) ≤ 200
              · go_wp2
                go_roundw
                case rel => exact ⟨j + 1, by go_num, by omega, allp_take HXX.out HG.out (by omega), HBA.out⟩
                case measure => simp [intOf]; omega
              · have HNO : Hid (¬ LtMsg7 m) := fun h => by have h1 := h.q x HMQ.out; omega
                go_wp2
                go_ret
                exact ⟨_, rfl, by show Value.bool _ = Value.bool _; rw [ltM7_no HNO.out], HBB.out⟩
            · obtain rfl : j = m.qs.length := by omega
              rw [List.take_length] at HG
              by_cases hz : (z : Int) < 200000
              · have HY := Lib.hid (HYES.out HK6.out (by omega) HFA.out HG.out (by omega))
                go_wp2
                go_ret
                exact ⟨_, rfl, by show Value.bool _ = Value.bool _; rw [ltM7_yes HY.out], HBB.out⟩
              · have HNO : Hid (¬ LtMsg7 m) := fun h => by have h1 := h.b; rw [HALL.out] at h1; omega
                go_wp2
                go_ret
                exact ⟨_, rfl, by show Value.bool _ = Value.bool _; rw [ltM7_no HNO.out], HBB.out⟩
    · have HNO : Hid (¬ LtMsg7 m) := fun h => by have h1 := h.qs; omega
      go_wp2
      go_ret
      exact ⟨_, rfl, by show Value.bool _ = Value.bool _; rw [ltM7_no HNO.out], HB0.out⟩
  · have HNO : Hid (¬ LtMsg7 m) := fun h => by have h1 := HLA.out h; omega
    go_wp2
    go_ret
    exact ⟨_, rfl, by show Value.bool _ = Value.bool _; rw [ltM7_no HNO.out], HB0.out⟩
end Go.Proofs.Ytmkfjddighabcaa
