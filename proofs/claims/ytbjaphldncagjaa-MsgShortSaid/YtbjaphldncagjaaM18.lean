/- Parts of a proof, joined: Light6, Law06E. -/
import Derived.Test.YtbjaphldncagjaaM15
import Derived.Test.YtbjaphldncagjaaM12
import Derived.Test.YtbjaphldncagjaaM17
import Derived.Test.YtbjaphldncagjaaM02
/- gazetteerlaw06.light: is a message not too large? -/
namespace Go.Proofs.Ytbjaphldncagjaa
open Go.RowKit
set_option maxRecDepth 100000


def Lt6 (r : RR) : Prop := r.name.length ≤ 200 ∧ r.data.host.length ≤ 200 ∧ r.data.mail.length ≤ 200 ∧ r.data.texts.length ≤ 100 ∧ r.data.nums.length ≤ 100
theorem bytesL_succ {l : List RR} {k : Nat} {r : RR} (h : l[k]? = some r) : bytesL (l.take (k + 1)) = bytesL (l.take k) + r.data.bytes.length := by
  rw [List.take_add_one, h, Option.toList_some, bytesL_append]
  simp [bytesL]
theorem bytesL_bnd {l : List RR} {B : Nat} (h : ∀ r ∈ l, r.data.bytes.length ≤ B) : bytesL l ≤ B * l.length := by
  induction l with
  | nil => simp [bytesL]
  | cons r l ih =>
    have h1 := ih fun x hx => h x (List.mem_cons_of_mem _ hx)
    have h2 := h r (List.mem_cons_self ..)
    have h3 : bytesL (r :: l) = r.data.bytes.length + bytesL l := by simp [bytesL]
    rw [h3, List.length_cons, Nat.mul_add, Nat.mul_one]
    omega


structure LtMsg6 (m : Ms) : Prop where
  all : (m.an ++ m.au ++ m.ex).length ≤ 600
  qs : m.qs.length ≤ 600
  r : ∀ r ∈ m.an ++ m.au ++ m.ex, Lt6 r
  q : ∀ q ∈ m.qs, q.name.length ≤ 200
  b : bytesM m < 200000
open Classical in
noncomputable def ltM6 (m : Ms) : Bool := decide (LtMsg6 m)
open Classical in
theorem ltM6_yes {m : Ms} (h : LtMsg6 m) : ltM6 m = true := decide_eq_true h
open Classical in
theorem ltM6_no {m : Ms} (h : ¬ LtMsg6 m) : ltM6 m = false := decide_eq_false h
open Classical in
theorem ltM6_iff {m : Ms} : ltM6 m = true ↔ LtMsg6 m := decide_eq_true_iff
theorem bytesM_all6 (m : Ms) : bytesM m = bytesL (m.an ++ m.au ++ m.ex) := by unfold bytesM; rw [bytesL_append, bytesL_append]

set_option maxHeartbeats 8000000 in
theorem light06_any (s : MS) (m : Ms) (w : World) {S : Nat → Prop} (h : MIn S w s m) (hS : ∀ b, S b → b < w.heap.size) (hq : m.qs.length ≤ 140737488355328) (hlen : (m.an.length + m.au.length + m.ex.length) * 168 ≤ 140737488355328) (hby : ∀ r ∈ m.an ++ m.au ++ m.ex, r.data.bytes.length ≤ 140737488355328) :
    Calls Try.prog 19 #[msV s m] w (RetP (fun v _ => v = .bool (ltM6 m)) w) := by
  obtain ⟨w1, hw1⟩ : ∃ w1, w1 = w.alloc (.cells (mCells s m) 33) := ⟨_, rfl⟩
  have hb1 : Below w.heap.size w w1 := by rw [hw1]; exact bl.alloc (Nat.le_refl _) _
  have HRW : Hid (MRow w1 w.heap.size s m) := by show MRow _ _ _ _; rw [hw1]; exact MRow.made w s m
  have HI := Lib.hid (h.below hb1 hS)
  have HSW : Hid (∀ b, S b → b < w1.heap.size) := fun b hb => Nat.lt_of_lt_of_le (hS b hb) hb1.size
  have HBW1 := Lib.hid hb1
  have HLEN := Lib.hid hlen
  have HBY := Lib.hid hby
  unfold msV
  unfold mCells at hw1 ⊢
  clear h hS hb1 hlen hby
  go_enter Try.func19, Try.ntmps19
  go_upto_region 1 with (fail)
  rw [← hw1]
  clear hw1
  generalize w.heap.size = q at HRW ⊢
  have k0 : ∀ w', Below w1.heap.size w1 w' → w'.cell? ⟨q, 9, none⟩ = some (.slice s.A m.an.length s.ac) ∧ w'.cell? ⟨q, 10, none⟩ = some (.slice s.U m.au.length s.uc) ∧ w'.cell? ⟨q, 11, none⟩ = some (.slice s.X m.ex.length s.xc) := fun w' hb => ⟨((HRW.out.below hb).cell 9).trans rfl, ((HRW.out.below hb).cell 10).trans rfl, ((HRW.out.below hb).cell 11).trans rfl⟩
  have z0 := k0 w1 bl
  have z1 := k0 w1.drew bl.drew
  have z2 := k0 (w1.alloc (.cells #[] 48)) (bl.alloc (Nat.le_refl _) _)
  have z3 := k0 (w1.alloc (.cells #[] 48)).drew (bl.alloc (Nat.le_refl _) _).drew
  have KK := Lib.hid k0
  have hbase0 : w1.heap.size ≤ (w1.alloc (.cells #[] 48)).drew.heap.size := (bl.alloc (Nat.le_refl _) (.cells #[] 48)).drew.size
  have hown0 : OwnE encRR 48 noS (w1.alloc (.cells #[] 48)).drew w1.heap.size (.slice (some ⟨w1.heap.size, 0, none⟩) 0 0) [] := (ownE_lit0 (fun _ h => h.elim) (Nat.le_refl _)).below bl.drew
  have HBX : Hid (Below w1.heap.size w1 (w1.alloc (.cells #[] 48)).drew) := (bl.alloc (Nat.le_refl _) _).drew
  have hsS : ∀ (w' : World) (v : Value), Below w1.heap.size w1 w' → (∀ k, v.ownBlock = some k → w1.heap.size ≤ k) → ∀ b, S b → b < w'.heap.size ∧ some b ≠ v.ownBlock := fun w' v hb hv b hs => ⟨Nat.lt_of_lt_of_le (HSW.out b hs) hb.size, fun he => by have h1 := hv b he.symm; have h2 := HSW.out b hs; omega⟩
  have HSS := Lib.hid hsS
  have HHO := Lib.hid hown0
  have hA1 : (([] : List RR).length + m.an.length) * 168 ≤ 140737488355328 := by have := HLEN.out; simp; omega
  have hA2 : ([] ++ m.an).length * 168 + m.au.length * 168 ≤ 140737488355328 := by have := HLEN.out; simp; omega
  have hA3 : ([] ++ m.an ++ m.au).length * 168 + m.ex.length * 168 ≤ 140737488355328 := by have := HLEN.out; simp; omega
  have hM1 : ([] : List RR).length + m.an.length ≤ maxLen := by have := HLEN.out; simp [maxLen]; omega
  have hM2 : ([] ++ m.an).length + m.au.length ≤ maxLen := by have := HLEN.out; simp [maxLen]; omega
  have hM3 : ([] ++ m.an ++ m.au).length + m.ex.length ≤ maxLen := by have := HLEN.out; simp [maxLen]; omega
  have HA := Lib.hid (And.intro hA1 (And.intro hA2 hA3))
  have HM := Lib.hid (And.intro hM1 (And.intro hM2 hM3))
  clear k0 hsS hA1 hA2 hA3 hM1 hM2 hM3
  go_upto_region 1 with (fail)
  go_region_held3 (fun w' => w'.cell? ⟨q, 9, none⟩ = some (.slice s.A m.an.length s.ac) ∧ w'.cell? ⟨q, 10, none⟩ = some (.slice s.U m.au.length s.uc) ∧ w'.cell? ⟨q, 11, none⟩ = some (.slice s.X m.ex.length s.xc))
    (first | with_reducible exact z0 | with_reducible exact z1 | with_reducible exact z2 | with_reducible exact z3 | with_reducible exact z4 | with_reducible exact z5 | with_reducible exact z6 | fail)
    (first
      | (refine step_appE (w := u2) elRR (by rfl) (.tmp 14) (.tmp 16) (by rfl) w1.heap.size v2 ([] ++ m.an ++ m.au) (by rfl) hown2 s.X m.ex.length s.xc m.ex (HI.out.x.keep (fun b hb => HB2.out.block b (HSW.out b hb)) (fun b hb => HB2.out.block b (HSW.out b hb))) (HSS.out _ _ HB2.out (fun k hk => (OwnE.lt hown2 k hk).1)) (by rfl) (by have h := HA.out.2.2; rw [Nat.add_mul]; exact h) HM.out.2.2 (Nat.le_trans (Nat.le_refl _) HB2.out.size) ?_; intro v3 u3 hown3 hg3 hat3; have HB3 : Hid (Below w1.heap.size w1 u3) := (Below.grown HB2.out hg3 HB2.out.size (fun k hk => (OwnE.lt hown2 k hk).1)); have z6 := KK.out u3 HB3.out; clear hat3 hg3)
      | (refine step_appE (w := u1) elRR (by rfl) (.tmp 11) (.tmp 13) (by rfl) w1.heap.size v1 ([] ++ m.an) (by rfl) hown1 s.U m.au.length s.uc m.au (HI.out.u.keep (fun b hb => HB1.out.block b (HSW.out b hb)) (fun b hb => HB1.out.block b (HSW.out b hb))) (HSS.out _ _ HB1.out (fun k hk => (OwnE.lt hown1 k hk).1)) (by rfl) (by have h := HA.out.2.1; rw [Nat.add_mul]; exact h) HM.out.2.1 (Nat.le_trans (Nat.le_refl _) HB1.out.size) ?_; intro v2 u2 hown2 hg2 hat2; have HB2 : Hid (Below w1.heap.size w1 u2) := (Below.grown HB1.out hg2 HB1.out.size (fun k hk => (OwnE.lt hown1 k hk).1)); have z5 := KK.out u2 HB2.out; clear hat2 hg2)
      | (refine step_appE (w := (w1.alloc (.cells #[] 48)).drew) elRR (by rfl) (.tmp 8) (.tmp 10) (by rfl) w1.heap.size (.slice (some ⟨w1.heap.size, 0, none⟩) 0 0) ([]) (by rfl) HHO.out s.A m.an.length s.ac m.an (HI.out.a.keep (fun b hb => HBX.out.block b (HSW.out b hb)) (fun b hb => HBX.out.block b (HSW.out b hb))) (HSS.out _ _ HBX.out (fun k hk => (OwnE.lt HHO.out k hk).1)) (by rfl) HA.out.1 HM.out.1 (Nat.le_trans (Nat.le_refl _) HBX.out.size) ?_; intro v1 u1 hown1 hg1 hat1; have HB1 : Hid (Below w1.heap.size w1 u1) := (Below.grown HBX.out hg1 HBX.out.size (fun k hk => (OwnE.lt HHO.out k hk).1)); have z4 := KK.out u1 HB1.out; clear hat1 hg1)
      | fail)
  rw [List.nil_append] at hown3
  obtain ⟨A3, c3, hv3, hr3, _, _⟩ := OwnE.rdE hown3
  obtain ⟨n, hn⟩ : ∃ n, n = (m.an ++ m.au ++ m.ex).length := ⟨_, rfl⟩
  have HN := Lib.hid hn
  have hn2 : n * 168 ≤ 140737488355328 := by rw [hn, List.length_append, List.length_append]; exact HLEN.out
  rw [← hn] at hv3 hr3
  subst hv3
  have HR3 := Lib.hid hr3
  have HALL := Lib.hid (bytesM_all6 m)
  have HLT : Hid (∀ h : LtMsg6 m, ∀ r ∈ m.an ++ m.au ++ m.ex, Lt6 r) := fun h => h.r
  have HLA : Hid (LtMsg6 m → n ≤ 600) := fun h => by rw [hn]; exact h.all
  have HYES : Hid (n ≤ 600 → m.qs.length ≤ 600 → (∀ r ∈ m.an ++ m.au ++ m.ex, Lt6 r) → (∀ q ∈ m.qs, q.name.length ≤ 200) → bytesL (m.an ++ m.au ++ m.ex) < 200000 → LtMsg6 m) := fun h1 h2 h3 h4 h5 => ⟨by rw [← hn]; exact h1, h2, h3, h4, by rw [bytesM_all6]; exact h5⟩
  clear z0 z1 z2 z3 z4 z5 z6 hown0 hown1 hown2 hown3 hr3 hn HA HHO HSS HBX hbase0 HB1 HB2
  generalize m.an ++ m.au ++ m.ex = l at HBY HN HR3 HALL HLT HYES

  clear HLEN
  have HB0 := Lib.hid (nx HBW1.out HB3.out)
  have HR1 := Lib.hid (HRW.out.below HB3.out)
  obtain ⟨z0, z1, z2, z3, z4, z5, z6, z7, z8, z9, z10, z11, z12, z13⟩ := HR1.out.cells
  by_cases a0 : (n : Int) ≤ 600
  · by_cases a1 : (m.qs.length : Int) ≤ 600
    · go_wp2
      clear z0 z1 z2 z3 z4 z5 z6 z7 z8 z9 z10 z11 z12 z13
      go_loopw [4, 5] (fun sv iv wr => ∃ k : Nat, iv = .int .i64 k ∧ k ≤ n ∧ sv = .int .i64 (bytesL (l.take k) : Int) ∧ Hid (∀ r ∈ l.take k, Lt6 r) ∧ Hid (Below u3.heap.size u3 wr)) (fun _ iv _ => n - (intOf iv).toNat)
      case atStart => exact ⟨0, rfl, Nat.zero_le _, rfl, fun r hr => by simp at hr, bl⟩
      case round =>
        obtain ⟨k, rfl, hk, rfl, HF, HBR⟩ := hrel
        have hbk : bytesL (l.take k) ≤ 140737488355328 * k := by
          have h1 := bytesL_bnd (l := l.take k) (B := 140737488355328) (fun r hr => HBY.out r (List.mem_of_mem_take hr))
          have h2 : (l.take k).length ≤ k := List.length_take_le _ _
          exact Nat.le_trans h1 (Nat.mul_le_mul_left _ h2)
        by_cases hlt : k < n
        · obtain ⟨r, hr⟩ : ∃ r, l[k]? = some r := ⟨_, List.getElem?_eq_getElem (by rw [← HN.out]; exact hlt)⟩
          have HX := Lib.hid hr
          have HMEM := Lib.hid (List.mem_of_getElem? hr)
          have HSU := Lib.hid (bytesL_succ hr)
          have hbr := HBY.out r HMEM.out
          have HBRR := Lib.hid hbr
          obtain ⟨b, off, t, hA, hb0, hri, hrc⟩ := rr_at HR3.out hr
          have hAA := Lib.hid hA
          rw [hA]
          have hbx : Below wr.heap.size wr (wr.alloc (.cells #[.slice t.d.A0 r.data.bytes.length t.d.c0, .slice t.d.A1 r.data.host.length t.d.c1, .slice t.d.A2 r.data.mail.length t.d.c2, .slice t.d.A3 r.data.nums.length t.d.c3, .slice t.d.A4 r.data.texts.length t.d.c4] 46)) := bl.alloc (Nat.le_refl _) _
          have hrc1 := hrc.below HBR.out
          have hrc2 := hrc1.below hbx
          obtain ⟨d0, d1, d2, d3, d4, d5, d6, d7, d8⟩ := hrc1
          obtain ⟨e0, e1, e2, e3, e4, e5, e6, e7, e8⟩ := hrc2
          have HBX := Lib.hid (nx HBR.out hbx)
          have HBB := Lib.hid (nx HB0.out (nx HBR.out hbx))
          clear hr hri hrc hA hb0 hbx hbr
          generalize bytesL (l.take k) = z at hbk HSU ⊢
          by_cases t0 : (r.name.length : Int) ≤ 200
          · skip
            by_cases t1 : (r.data.host.length : Int) ≤ 200
            · skip
              by_cases t2 : (r.data.mail.length : Int) ≤ 200
              · skip
                by_cases t3 : (r.data.texts.length : Int) ≤ 100
                · skip
                  by_cases t4 : (r.data.nums.length : Int) ≤ 100
                  · skip
                    have hbr2 := HBRR.out
                    go_wp2
                    go_roundw
                    case rel =>
                      refine ⟨k + 1, by go_num, by omega, by rw [HSU.out]; go_num, allp_take HX.out HF.out ⟨by omega, by omega, by omega, by omega, by omega⟩, HBX.out⟩
                    case measure => simp [intOf]; omega
                  · skip
                    have HNO : Hid (¬ LtMsg6 m) := fun h => by have h1 := (HLT.out h r HMEM.out).2.2.2.2; omega
                    go_wp2
                    go_ret
                    exact ⟨_, rfl, by show Value.bool _ = Value.bool _; rw [ltM6_no HNO.out], HBB.out⟩
                · skip
                  have HNO : Hid (¬ LtMsg6 m) := fun h => by have h1 := (HLT.out h r HMEM.out).2.2.2.1; omega
                  go_wp2
                  go_ret
                  exact ⟨_, rfl, by show Value.bool _ = Value.bool _; rw [ltM6_no HNO.out], HBB.out⟩
              · skip
                have HNO : Hid (¬ LtMsg6 m) := fun h => by have h1 := (HLT.out h r HMEM.out).2.2.1; omega
                go_wp2
                go_ret
                exact ⟨_, rfl, by show Value.bool _ = Value.bool _; rw [ltM6_no HNO.out], HBB.out⟩
            · skip
              have HNO : Hid (¬ LtMsg6 m) := fun h => by have h1 := (HLT.out h r HMEM.out).2.1; omega
              go_wp2
              go_ret
              exact ⟨_, rfl, by show Value.bool _ = Value.bool _; rw [ltM6_no HNO.out], HBB.out⟩
          · skip
            have HNO : Hid (¬ LtMsg6 m) := fun h => by have h1 := (HLT.out h r HMEM.out).1; omega
            go_wp2
            go_ret
            exact ⟨_, rfl, by show Value.bool _ = Value.bool _; rw [ltM6_no HNO.out], HBB.out⟩
        · obtain rfl : k = n := by omega
          have htk : l.take k = l := by rw [HN.out, List.take_length]
          rw [htk] at HF hbk ⊢
          have HFA := Lib.hid HF.out
          have hk6 : k ≤ 600 := by omega
          have HK6 := Lib.hid hk6
          rename World => wa
          have HRB := Lib.hid (HR1.out.below HBR.out)
          generalize bytesL l = z at hbk HALL HYES ⊢
          clear htk hlt hk
          go_wp2_with fail
          go_loopw [7] (fun iv wr => ∃ j : Nat, iv = .int .i64 j ∧ j ≤ m.qs.length ∧ Hid (∀ q ∈ m.qs.take j, q.name.length ≤ 200) ∧ Hid (Below wa.heap.size wa wr)) (fun iv _ => m.qs.length - (intOf iv).toNat)
          case atStart => exact ⟨0, rfl, Nat.zero_le _, fun r hr => by simp at hr, bl⟩
          case round =>
            obtain ⟨j, rfl, hj, HG, HBA⟩ := hrel
            have z8 : wr.cell? ⟨q, 8, none⟩ = some (.slice s.Q m.qs.length s.qc) := ((HRB.out.below HBA.out).cell 8).trans rfl
            have HBB := Lib.hid (nx (nx HB0.out HBR.out) HBA.out)
            by_cases hlj : j < m.qs.length
            · obtain ⟨x, hx⟩ : ∃ x, m.qs[j]? = some x := ⟨_, List.getElem?_eq_getElem hlj⟩
              obtain ⟨b, off, t, hA, _, hd, hc⟩ := qu_at HI.out.q hx
              have HXX := Lib.hid hx
              rw [hA] at z8
              obtain ⟨d0, d1, d2⟩ := (hc.below (nx HB3.out (nx HBR.out HBA.out)))
              have HMQ := Lib.hid (List.mem_of_getElem? hx)
              clear hx hA hd hc
              by_cases t0 : (x.name.length : Int) ≤ 200
              · go_wp2
                go_roundw
                case rel => exact ⟨j + 1, by go_num, by omega, allp_take HXX.out HG.out (by omega), HBA.out⟩
                case measure => simp [intOf]; omega
              · have HNO : Hid (¬ LtMsg6 m) := fun h => by have h1 := h.q x HMQ.out; omega
                go_wp2
                go_ret
                exact ⟨_, rfl, by show Value.bool _ = Value.bool _; rw [ltM6_no HNO.out], HBB.out⟩
            · obtain rfl : j = m.qs.length := by omega
              rw [List.take_length] at HG
              by_cases hz : (z : Int) < 200000
              · have HY := Lib.hid (HYES.out HK6.out (by omega) HFA.out HG.out (by omega))
                go_wp2
                go_ret
                exact ⟨_, rfl, by show Value.bool _ = Value.bool _; rw [ltM6_yes HY.out], HBB.out⟩
              · have HNO : Hid (¬ LtMsg6 m) := fun h => by have h1 := h.b; rw [HALL.out] at h1; omega
                go_wp2
                go_ret
                exact ⟨_, rfl, by show Value.bool _ = Value.bool _; rw [ltM6_no HNO.out], HBB.out⟩
    · have HNO : Hid (¬ LtMsg6 m) := fun h => by have h1 := h.qs; omega
      go_wp2
      go_ret
      exact ⟨_, rfl, by show Value.bool _ = Value.bool _; rw [ltM6_no HNO.out], HB0.out⟩
  · have HNO : Hid (¬ LtMsg6 m) := fun h => by have h1 := HLA.out h; omega
    go_wp2
    go_ret
    exact ⟨_, rfl, by show Value.bool _ = Value.bool _; rw [ltM6_no HNO.out], HB0.out⟩
end Go.Proofs.Ytbjaphldncagjaa

/- MsgEncodes: the law's walk. -/
namespace Go.Proofs.Ytbjaphldncagjaa
open Go.RowKit
set_option maxRecDepth 100000

theorem bytesL_mem {l : List RR} {r : RR} (h : r ∈ l) : r.data.bytes.length ≤ bytesL l := by
  obtain ⟨k, hk⟩ := List.mem_iff_getElem?.1 h
  have h1 := bytesL_succ hk
  have h2 := bytesL_take l (k + 1)
  omega
theorem LtMsg6.ltM {m : Ms} (h : LtMsg6 m) : LtM m := by
  have hl : m.an.length + m.au.length + m.ex.length ≤ 600 := by have := h.all; rw [List.length_append, List.length_append] at this; exact this
  have hsub : ∀ j, ∀ x ∈ secL m j, x ∈ m.an ++ m.au ++ m.ex := fun j x hx => by
    match j, hx with
    | 0, hx => exact List.mem_append_left _ (List.mem_append_left _ hx)
    | 1, hx => exact List.mem_append_left _ (List.mem_append_right _ hx)
    | n + 2, hx => exact List.mem_append_right _ hx
  refine ⟨by have := h.qs; omega, fun j => ?_, fun x hx => by have := h.q x hx; omega, fun j x hx => ?_⟩
  · match j with
    | 0 => show m.an.length ≤ _; omega
    | 1 => show m.au.length ≤ _; omega
    | n + 2 => show m.ex.length ≤ _; omega
  · obtain ⟨h1, h2, h3, h4, h5⟩ := h.r x (hsub j x hx)
    have h6 := bytesL_mem (hsub j x hx)
    have h7 := h.b
    rw [bytesM_all6] at h7
    exact ⟨⟨by omega, by omega, by omega, by omega, by omega⟩, by omega⟩
set_option maxHeartbeats 8000000 in
theorem msgEncodes_ok (s : MS) (m : Ms) (w : World) (h : MIn (ltS w) w s m) (hlt : LtMsg6 m) (hq : m.qs.length ≤ 1048576) (hlen : (m.an.length + m.au.length + m.ex.length) * 168 ≤ 140737488355328) (hby : ∀ r ∈ m.an ++ m.au ++ m.ex, r.data.bytes.length ≤ 140737488355328) :
    Calls Try.prog 4 #[msV s m] w (LawT w) := by
  obtain ⟨w1, hw1⟩ : ∃ w1, w1 = w.alloc (.cells (mCells s m) 33) := ⟨_, rfl⟩
  have hb1 : Below w.heap.size w w1 := by rw [hw1]; exact bl.alloc (Nat.le_refl _) _
  have HR1 : Hid (MRow w1 w.heap.size s m) := by show MRow _ _ _ _; rw [hw1]; exact MRow.made w s m
  have HB1 := Lib.hid hb1
  have HIW : Hid (∀ w', Below w1.heap.size w1 w' → MIn (ltS w) w' s m) := fun w' hw => (h.below hb1 (fun b hb => hb)).below hw (fun b hb => Nat.lt_of_lt_of_le hb hb1.size)
  have HSW : Hid (∀ w', Below w1.heap.size w1 w' → ∀ b, ltS w b → b < w'.heap.size) := fun w' hw b hb => Nat.lt_of_lt_of_le (Nat.lt_of_lt_of_le hb hb1.size) hw.size
  have HL := Lib.hid hlt.ltM
  have HBM : Hid (bytesM m ≤ 200000) := by show _ ≤ _; have := hlt.b; omega
  have k14 : ∀ w', Below w1.heap.size w1 w' → w'.cell? ⟨w.heap.size, 0, none⟩ = some (.int .i64 m.id) ∧ w'.cell? ⟨w.heap.size, 1, none⟩ = some (.bool m.resp) ∧ w'.cell? ⟨w.heap.size, 2, none⟩ = some (.int .i64 m.op) ∧ w'.cell? ⟨w.heap.size, 3, none⟩ = some (.bool m.aa) ∧ w'.cell? ⟨w.heap.size, 4, none⟩ = some (.bool m.tc) ∧ w'.cell? ⟨w.heap.size, 5, none⟩ = some (.bool m.rd) ∧ w'.cell? ⟨w.heap.size, 6, none⟩ = some (.bool m.ra) ∧ w'.cell? ⟨w.heap.size, 7, none⟩ = some (.int .i64 m.rcode) ∧ w'.cell? ⟨w.heap.size, 8, none⟩ = some (.slice s.Q m.qs.length s.qc) ∧ w'.cell? ⟨w.heap.size, 9, none⟩ = some (.slice s.A m.an.length s.ac) ∧ w'.cell? ⟨w.heap.size, 10, none⟩ = some (.slice s.U m.au.length s.uc) ∧ w'.cell? ⟨w.heap.size, 11, none⟩ = some (.slice s.X m.ex.length s.xc) ∧ w'.cell? ⟨w.heap.size, 12, none⟩ = some (.bool m.edns) ∧ w'.cell? ⟨w.heap.size, 13, none⟩ = some (.int .i64 m.size) := fun w' hw => (HR1.out.below hw).cells
  have HK := Lib.hid k14
  have HLT := Lib.hid (fun w2 (hw : Below w1.heap.size w1 w2) => light06_any s m w2 (HIW.out w2 hw) (HSW.out w2 hw) (by omega) hlen hby)
  have HYES := Lib.hid (ltM6_yes hlt)
  have HEL := Lib.hid (encP_len m)
  unfold msV mCells at HLT
  unfold msV
  unfold mCells at hw1 ⊢
  clear h hb1 hlt hq hlen hby k14
  rw [HYES.out] at HLT
  go_enter Try.func4, Try.ntmps4
  go_upto_region 1 with (fail)
  rw [← hw1]
  clear hw1
  generalize w.heap.size = q at HR1 HK ⊢
  go_upto_region 3 with (first
    | (go_at_call 19; refine (HLT.out w2 hb2).mono ?_; rintro e w3 ⟨v3, rfl, rfl, hb3⟩)
    | (go_at_call 18; refine (answers06_any w1).mono ?_; rintro e w2 ⟨rfl, hb2⟩; obtain ⟨z0, z1, z2, z3, z4, z5, z6, z7, z8, z9, z10, z11, z12, z13⟩ := HK.out w2 hb2)
    | fail)
  have HB3 := Lib.hid (nx hb2 hb3)
  clear z0 z1 z2 z3 z4 z5 z6 z7 z8 z9 z10 z11 z12 z13 hb2 hb3 HYES HLT
  obtain ⟨z0, z1, z2, z3, z4, z5, z6, z7, z8, z9, z10, z11, z12, z13⟩ := HK.out w3 HB3.out
  go_upto_region 4 with (first
    | (go_at_call 20; refine (mEncode_any s4 m w4 HI4.out (fun b hb => hb.2) HL.out HBM.out).mono ?_; rintro e w5 ⟨v5, rfl, ⟨bv5, rfl, ho5⟩, hb5⟩; have HO5 := Lib.hid ho5; obtain ⟨A5, c5, hv5, _, _, _⟩ := OwnB.form ho5; subst hv5; have HB5 := Lib.hid (nx HB4.out hb5); clear ho5 hb5)
    | (go_at_call 21; refine (ownMsg_any s m w3 (HIW.out w3 HB3.out) (HSW.out w3 HB3.out) HL.out.light).mono ?_; rintro e w4 ⟨v4, rfl, ⟨s4, rfl, hi4⟩, hb4⟩; have HI4 := Lib.hid hi4; have HB4 := Lib.hid (nx HB3.out hb4); clear hi4 hb4)
    | fail)
  clear z0 z1 z2 z3 z4 z5 z6 z7 z8 z9 z10 z11 z12 z13 HI4
  obtain ⟨z0, z1, z2, z3, z4, z5, z6, z7, z8, z9, z10, z11, z12, z13⟩ := HK.out w5 HB5.out
  go_upto_region 5 with (first
    | (go_at_call 22; refine (rEncode_any s m w5 (HIW.out w5 HB5.out) (HSW.out w5 HB5.out) HL.out HBM.out).mono ?_; rintro e w6 ⟨v6, rfl, ⟨bv6, rfl, ho6⟩, hb6⟩; obtain ⟨A6, c6, hv6, hr6, hl6, hm6⟩ := ho6; subst hv6; have HR6 := Lib.hid hr6; have HR5 := Lib.hid ((OwnB.rd HO5.out).1.below hb6); have HB6 := Lib.hid (nx HB5.out hb6); clear hr6 hl6 hm6 hb6)
    | fail)
  clear z0 z1 z2 z3 z4 z5 z6 z7 z8 z9 z10 z11 z12 z13 HO5
  have hfb : (fineM m == fineM m) = true := by simp
  generalize encP m = E at HR6 HR5 HEL ⊢
  obtain ⟨bs, er⟩ := E
  have y0 := HK.out w6 HB6.out
  have y1 := HK.out w6.drew HB6.out.drew
  have HBd := Lib.hid HB6.out.drew
  have HRd6 : Hid (RdB w6.drew A6 bs.length bs) := HR6.out
  have HRd5 : Hid (RdB w6.drew A5 bs.length bs) := HR5.out
  have hel : bs.length ≤ 65535 := HEL.out
  go_region_held3 (fun w' => w'.cell? ⟨q, 0, none⟩ = some (.int .i64 m.id) ∧ w'.cell? ⟨q, 1, none⟩ = some (.bool m.resp) ∧ w'.cell? ⟨q, 2, none⟩ = some (.int .i64 m.op) ∧ w'.cell? ⟨q, 3, none⟩ = some (.bool m.aa) ∧ w'.cell? ⟨q, 4, none⟩ = some (.bool m.tc) ∧ w'.cell? ⟨q, 5, none⟩ = some (.bool m.rd) ∧ w'.cell? ⟨q, 6, none⟩ = some (.bool m.ra) ∧ w'.cell? ⟨q, 7, none⟩ = some (.int .i64 m.rcode) ∧ w'.cell? ⟨q, 8, none⟩ = some (.slice s.Q m.qs.length s.qc) ∧ w'.cell? ⟨q, 9, none⟩ = some (.slice s.A m.an.length s.ac) ∧ w'.cell? ⟨q, 10, none⟩ = some (.slice s.U m.au.length s.uc) ∧ w'.cell? ⟨q, 11, none⟩ = some (.slice s.X m.ex.length s.xc) ∧ w'.cell? ⟨q, 12, none⟩ = some (.bool m.edns) ∧ w'.cell? ⟨q, 13, none⟩ = some (.int .i64 m.size))
    (first
      | with_reducible exact y0
      | with_reducible exact y1
      | with_reducible exact y2
      | with_reducible exact y3
      | with_reducible exact y4
      | with_reducible exact y5
      | fail)
    (first
      | (go_at_call 25; refine (same_any _ _ _ _ _ _ bs bs w9 (HRd5.out.below HBX9.out) (HRd6.out.below HBX9.out) (by unfold maxLen; omega) (by unfold maxLen; omega)).mono ?_; rw [decide_eq_true rfl]; rintro e wa ⟨rfl, ma, hva⟩; have hba : Below w9.heap.size w9 wa := (by rw [hva]; exact dN bl ma); clear hva; have HBA := Lib.hid (nx HB9.out hba); have y5 := HK.out wa HBA.out)
      | (go_at_call 24; refine (rMsg_any s m w8 (HIW.out w8 HB8.out) (HSW.out w8 HB8.out) HL.out).mono ?_; rintro e w9 ⟨v9, rfl, rfl, hb9⟩; have HB9 := Lib.hid (nx HB8.out hb9); have HBX9 := Lib.hid (nx HBX8.out hb9); have y4 := HK.out w9 HB9.out; clear hb9)
      | (go_at_call 23; refine (mSound_any s7 m w7 HI7.out (fun b hb => hb.2) HL.out).mono ?_; rintro e w8 ⟨v8, rfl, rfl, hb8⟩; have HB8 := Lib.hid (nx HB7.out hb8); have HBX8 := Lib.hid (nx HBX7.out hb8); have y3 := HK.out w8 HB8.out; clear hb8)
      | (go_at_call 21; refine (ownMsg_any s m w6.drew (HIW.out w6.drew HBd.out) (HSW.out w6.drew HBd.out) HL.out.light).mono ?_; rintro e w7 ⟨v7, rfl, ⟨s7, rfl, hi7⟩, hb7⟩; have HI7 := Lib.hid hi7; have HB7 := Lib.hid (nx HBd.out hb7); have HBX7 := Lib.hid hb7; have y2 := HK.out w7 HB7.out; clear hi7 hb7)
      | fail)
  clear y0 y1 y2 y3 y4 y5
  go_wp2
  go_ret
  exact ⟨rfl, nx HB1.out HBA.out⟩
set_option maxHeartbeats 4000000 in
theorem msgEncodes_heavy (s : MS) (m : Ms) (w : World) (h : MIn (ltS w) w s m) (hlt : ¬ LtMsg6 m) (hq : m.qs.length ≤ 1048576) (hlen : (m.an.length + m.au.length + m.ex.length) * 168 ≤ 140737488355328) (hby : ∀ r ∈ m.an ++ m.au ++ m.ex, r.data.bytes.length ≤ 140737488355328) :
    Calls Try.prog 4 #[msV s m] w (LawT w) := by
  obtain ⟨w1, hw1⟩ : ∃ w1, w1 = w.alloc (.cells (mCells s m) 33) := ⟨_, rfl⟩
  have hb1 : Below w.heap.size w w1 := by rw [hw1]; exact bl.alloc (Nat.le_refl _) _
  have HR1 : Hid (MRow w1 w.heap.size s m) := by show MRow _ _ _ _; rw [hw1]; exact MRow.made w s m
  have HB1 := Lib.hid hb1
  have HLT := Lib.hid (fun w2 (hw : Below w1.heap.size w1 w2) => light06_any s m w2 ((h.below hb1 (fun b hb => hb)).below hw (fun b hb => Nat.lt_of_lt_of_le hb hb1.size)) (fun b hb => Nat.lt_of_lt_of_le (Nat.lt_of_lt_of_le hb hb1.size) hw.size) (by omega) hlen hby)
  have HNO := Lib.hid (ltM6_no hlt)
  unfold msV mCells at HLT
  unfold msV
  unfold mCells at hw1 ⊢
  clear h hb1 hlt hq hlen hby
  rw [HNO.out] at HLT
  go_enter Try.func4, Try.ntmps4
  go_upto_region 1 with (fail)
  rw [← hw1]
  clear hw1
  go_wp2_with (first
    | (go_at_call 18; refine (answers06_any w3).mono ?_; rintro e w4 ⟨rfl, hb4⟩)
    | (go_at_call 19; refine (HLT.out w2 hb2).mono ?_; rintro e w3 ⟨v3, rfl, rfl, hb3⟩)
    | (go_at_call 18; refine (answers06_any w1).mono ?_; rintro e w2 ⟨rfl, hb2⟩; obtain ⟨z0, z1, z2, z3, z4, z5, z6, z7, z8, z9, z10, z11, z12, z13⟩ := (HR1.out.below hb2).cells)
    | fail)
  go_ret
  exact ⟨rfl, nx (nx (nx HB1.out hb2) hb3) hb4⟩
theorem msgEncodes_walk (s : MS) (m : Ms) (w : World) (h : MIn (ltS w) w s m) (hq : m.qs.length ≤ 1048576) (ha : m.an.length ≤ 1048576) (hu : m.au.length ≤ 1048576) (hx : m.ex.length ≤ 1048576) (hby : ∀ r ∈ m.an ++ m.au ++ m.ex, r.data.bytes.length ≤ 1048576) :
    Calls Try.prog 4 #[msV s m] w (LawT w) := by
  have hby2 : ∀ r ∈ m.an ++ m.au ++ m.ex, r.data.bytes.length ≤ 140737488355328 := fun r hr => by have := hby r hr; omega
  by_cases h0 : LtMsg6 m
  · exact msgEncodes_ok s m w h h0 hq (by omega) hby2
  · exact msgEncodes_heavy s m w h h0 hq (by omega) hby2
end Go.Proofs.Ytbjaphldncagjaa
