/- Parts of a proof, joined: Light15. -/
import Derived.Test.YtimkdpkhdbiniaaSDF06
import Derived.Test.YtimkdpkhdbiniaaSDM16
/- gazetteerlaw15.light: is an entry not too large? (printed by gen/light15.py) -/
namespace Go.Proofs.Ytimkdpkhdbiniaa
open Go.RowKit
set_option maxRecDepth 100000
set_option linter.unusedVariables false

def LtD15 (d : Da) : Prop := d.bytes.length ≤ 2000 ∧ d.host.length ≤ 200 ∧ d.mail.length ≤ 200 ∧ d.texts.length ≤ 100 ∧ d.nums.length ≤ 100
structure LtEn (x : En) : Prop where
  r : ∀ d ∈ x.f.set, LtD15 d
  n : x.f.name.length ≤ 200
  z : x.f.zone.length ≤ 200
  l : x.f.set.length ≤ 100
  Z : x.zone.length ≤ 200
  h : x.f.soa.host.length ≤ 200
  m : x.f.soa.mail.length ≤ 200
  s : x.f.soa.nums.length ≤ 100
open Classical in
noncomputable def ltEn (x : En) : Bool := decide (LtEn x)
open Classical in
theorem ltEn_yes {x : En} (h : LtEn x) : ltEn x = true := decide_eq_true h
open Classical in
theorem ltEn_no {x : En} (h : ¬ LtEn x) : ltEn x = false := decide_eq_false h

set_option maxHeartbeats 16000000 in
theorem light15_any (s : ES) (x : En) (w : World) {S : Nat → Prop} (h : EnIn S w s x) (hS : ∀ b, S b → b < w.heap.size) :
    Calls Try.prog 19 #[enV s x] w (RetP (fun v _ => v = .bool (ltEn x)) w) := by
  obtain ⟨⟨sA, sac, sS, ssc, sZ, szc, sd⟩, Z, zc⟩ := s
  obtain ⟨w1, hw1⟩ : ∃ w1, w1 = w.alloc (.cells (enCells ⟨⟨sA, sac, sS, ssc, sZ, szc, sd⟩, Z, zc⟩ x) 50) := ⟨_, rfl⟩
  obtain ⟨w2, hw2⟩ : ∃ w2, w2 = w1.alloc (.cells (faCells ⟨sA, sac, sS, ssc, sZ, szc, sd⟩ x.f) 48) := ⟨_, rfl⟩
  have hb1 : Below w.heap.size w w1 := by rw [hw1]; exact bl.alloc (Nat.le_refl _) _
  have hb2 : Below w1.heap.size w1 w2 := by rw [hw2]; exact bl.alloc (Nat.le_refl _) _
  have hR1 : EnRow w1 w.heap.size ⟨⟨sA, sac, sS, ssc, sZ, szc, sd⟩, Z, zc⟩ x := by rw [hw1]; exact EnRow.made w _ x
  have hR2 : FaRow w2 w1.heap.size ⟨sA, sac, sS, ssc, sZ, szc, sd⟩ x.f := by rw [hw2]; exact FaRow.made w1 _ x.f
  have HB2 : Hid (Below w.heap.size w w2) := nx hb1 hb2
  obtain ⟨n, hn⟩ : ∃ n, n = x.f.set.length := ⟨_, rfl⟩
  have HSET : Hid (Els encDa S S w2 sS n x.f.set) := by show Els _ _ _ _ _ _ _; rw [hn]; exact (h.f.below HB2.out hS).l
  have HSW : Hid (∀ b, S b → b < w2.heap.size) := fun b hb => Nat.lt_of_lt_of_le (hS b hb) HB2.out.size
  have HN := Lib.hid hn
  have hnm : n ≤ 9223372036854775807 := by have h1 := h.f.cl; unfold maxLen at h1; rw [hn]; exact Nat.le_trans h1.1 h1.2
  have z0 : w1.cell? ⟨w.heap.size, 2, none⟩ = some (.slice sA x.f.name.length sac) := by exact (hR1.cell 2).trans rfl
  have z1 : w1.cell? ⟨w.heap.size, 3, none⟩ = some (.int .i64 x.f.type) := by exact (hR1.cell 3).trans rfl
  have z2 : w1.cell? ⟨w.heap.size, 4, none⟩ = some (.int .i64 x.f.kind) := by exact (hR1.cell 4).trans rfl
  have z3 : w1.cell? ⟨w.heap.size, 5, none⟩ = some (.int .i64 x.f.rank) := by exact (hR1.cell 5).trans rfl
  have z4 : w1.cell? ⟨w.heap.size, 6, none⟩ = some (.int .i64 x.f.got) := by exact (hR1.cell 6).trans rfl
  have z5 : w1.cell? ⟨w.heap.size, 7, none⟩ = some (.int .i64 x.f.ttl) := by exact (hR1.cell 7).trans rfl
  have z6 : w1.cell? ⟨w.heap.size, 8, none⟩ = some (.slice sS n ssc) := by rw [hn]; exact (hR1.cell 8).trans rfl
  have z7 : w1.cell? ⟨w.heap.size, 9, none⟩ = some (.slice sZ x.f.zone.length szc) := by exact (hR1.cell 9).trans rfl
  have z8 : w1.cell? ⟨w.heap.size, 10, none⟩ = some (.slice sd.A0 x.f.soa.bytes.length sd.c0) := by exact (hR1.cell 10).trans rfl
  have z9 : w1.cell? ⟨w.heap.size, 11, none⟩ = some (.slice sd.A1 x.f.soa.host.length sd.c1) := by exact (hR1.cell 11).trans rfl
  have z10 : w1.cell? ⟨w.heap.size, 12, none⟩ = some (.slice sd.A2 x.f.soa.mail.length sd.c2) := by exact (hR1.cell 12).trans rfl
  have z11 : w1.cell? ⟨w.heap.size, 13, none⟩ = some (.slice sd.A3 x.f.soa.nums.length sd.c3) := by exact (hR1.cell 13).trans rfl
  have z12 : w1.cell? ⟨w.heap.size, 14, none⟩ = some (.slice sd.A4 x.f.soa.texts.length sd.c4) := by exact (hR1.cell 14).trans rfl
  have K : ∀ u, Below w2.heap.size w2 u → (u.cell? ⟨w1.heap.size, 0, none⟩ = some (.slice sA x.f.name.length sac) ∧ u.cell? ⟨w1.heap.size, 1, none⟩ = some (.int .i64 x.f.type) ∧ u.cell? ⟨w1.heap.size, 2, none⟩ = some (.int .i64 x.f.kind) ∧ u.cell? ⟨w1.heap.size, 3, none⟩ = some (.int .i64 x.f.rank) ∧ u.cell? ⟨w1.heap.size, 4, none⟩ = some (.int .i64 x.f.got) ∧ u.cell? ⟨w1.heap.size, 5, none⟩ = some (.int .i64 x.f.ttl) ∧ u.cell? ⟨w1.heap.size, 6, none⟩ = some (.slice sS n ssc) ∧ u.cell? ⟨w1.heap.size, 7, none⟩ = some (.slice sZ x.f.zone.length szc) ∧ u.cell? ⟨w1.heap.size, 8, none⟩ = some (.slice sd.A0 x.f.soa.bytes.length sd.c0) ∧ u.cell? ⟨w1.heap.size, 9, none⟩ = some (.slice sd.A1 x.f.soa.host.length sd.c1) ∧ u.cell? ⟨w1.heap.size, 10, none⟩ = some (.slice sd.A2 x.f.soa.mail.length sd.c2) ∧ u.cell? ⟨w1.heap.size, 11, none⟩ = some (.slice sd.A3 x.f.soa.nums.length sd.c3) ∧ u.cell? ⟨w1.heap.size, 12, none⟩ = some (.slice sd.A4 x.f.soa.texts.length sd.c4) ∧ u.cell? ⟨w.heap.size, 15, none⟩ = some (.slice Z x.zone.length zc)) := fun u hu => by
    have h1 := hR2.below hu
    have h2 := (hR1.below hb2).below hu
    rw [hn]
    exact ⟨(h1.cell 0).trans rfl, (h1.cell 1).trans rfl, (h1.cell 2).trans rfl, (h1.cell 3).trans rfl, (h1.cell 4).trans rfl, (h1.cell 5).trans rfl, (h1.cell 6).trans rfl, (h1.cell 7).trans rfl, (h1.cell 8).trans rfl, (h1.cell 9).trans rfl, (h1.cell 10).trans rfl, (h1.cell 11).trans rfl, (h1.cell 12).trans rfl, (h2.cell 15).trans rfl⟩
  have KK := Lib.hid K
  have HLT : Hid (LtEn x → ∀ d ∈ x.f.set, LtD15 d) := fun h => h.r
  have HYES : Hid ((∀ d ∈ x.f.set, LtD15 d) → x.f.name.length ≤ 200 → x.f.zone.length ≤ 200 → x.f.set.length ≤ 100 → x.zone.length ≤ 200 → x.f.soa.host.length ≤ 200 → x.f.soa.mail.length ≤ 200 → x.f.soa.nums.length ≤ 100 → LtEn x) := fun h1 h2 h3 h4 h5 h6 h7 h8 => ⟨h1, h2, h3, h4, h5, h6, h7, h8⟩
  unfold enV
  unfold enCells at hw1 ⊢
  unfold faCells at hw2
  rw [← hn] at hw1 hw2
  rw [← hn]
  clear h hS hb1 hb2 hR1 hR2 hn K
  go_enter Try.func19, Try.ntmps19
  go_upto_region 1 with (fail)
  rw [← hw1]
  clear hw1
  go_upto_region 2 with (fail)
  rw [← hw2]
  clear hw2 z0 z1 z2 z3 z4 z5 z6 z7 z8 z9 z10 z11 z12
  generalize w1.heap.size = q1 at KK ⊢
  generalize w.heap.size = q0 at KK ⊢
  go_wp2
  go_loopw [4] (fun iv wr => ∃ i : Nat, iv = .int .i64 i ∧ i ≤ n ∧ Hid (∀ d ∈ x.f.set.take i, LtD15 d) ∧ Hid (Below w2.heap.size w2 wr)) (fun iv _ => n - (intOf iv).toNat)
  case atStart => exact ⟨0, rfl, Nat.zero_le _, fun d hd => by simp at hd, bl⟩
  case round =>
    obtain ⟨i, rfl, hi, HF, HBR⟩ := hrel
    obtain ⟨x0, x1, x2, x3, x4, x5, x6, x7, x8, x9, x10, x11, x12, x15⟩ := KK.out wr HBR.out
    by_cases hlt : i < n
    · obtain ⟨d, hx⟩ : ∃ d, x.f.set[i]? = some d := ⟨_, List.getElem?_eq_getElem (by rw [← HN.out]; exact hlt)⟩
      have HX := Lib.hid hx
      have HMEM := Lib.hid (List.mem_of_getElem? hx)
      obtain ⟨b, off, t, hA, -, -, hcc⟩ := da_at HSET.out hx
      subst hA
      obtain ⟨d0, d1, d2, d3, d4⟩ := hcc.below HBR.out
      have hbx : Below wr.heap.size wr (wr.alloc (.cells #[.slice t.A0 d.bytes.length t.c0, .slice t.A1 d.host.length t.c1, .slice t.A2 d.mail.length t.c2, .slice t.A3 d.nums.length t.c3, .slice t.A4 d.texts.length t.c4] 46)) := bl.alloc (Nat.le_refl _) _
      have HBX : Hid (Below w2.heap.size w2 (wr.alloc (.cells #[.slice t.A0 d.bytes.length t.c0, .slice t.A1 d.host.length t.c1, .slice t.A2 d.mail.length t.c2, .slice t.A3 d.nums.length t.c3, .slice t.A4 d.texts.length t.c4] 46))) := nx HBR.out hbx
      obtain ⟨e0, e1, e2, e3, e4⟩ := DBox.made wr t d 46
      clear hx hcc hbx
      by_cases t0 : 2000 < d.bytes.length
      · have u0 : decide ((2000 : Int) < (d.bytes.length : Int)) = true := decide_eq_true (by omega)
        have HNO : Hid (¬ LtEn x) := fun h => by have h1 := (HLT.out h d HMEM.out).1; omega
        clear t0
        go_wp2
        go_ret
        exact ⟨_, rfl, by show Value.bool _ = Value.bool _; rw [ltEn_no HNO.out], nx HB2.out HBX.out⟩
      · have u0 : decide ((2000 : Int) < (d.bytes.length : Int)) = false := decide_eq_false (by omega)
        by_cases t1 : 200 < d.host.length
        · have u1 : decide ((200 : Int) < (d.host.length : Int)) = true := decide_eq_true (by omega)
          have HNO : Hid (¬ LtEn x) := fun h => by have h1 := (HLT.out h d HMEM.out).2.1; omega
          clear t1
          go_wp2
          go_ret
          exact ⟨_, rfl, by show Value.bool _ = Value.bool _; rw [ltEn_no HNO.out], nx HB2.out HBX.out⟩
        · have u1 : decide ((200 : Int) < (d.host.length : Int)) = false := decide_eq_false (by omega)
          by_cases t2 : 200 < d.mail.length
          · have u2 : decide ((200 : Int) < (d.mail.length : Int)) = true := decide_eq_true (by omega)
            have HNO : Hid (¬ LtEn x) := fun h => by have h1 := (HLT.out h d HMEM.out).2.2.1; omega
            clear t2
            go_wp2
            go_ret
            exact ⟨_, rfl, by show Value.bool _ = Value.bool _; rw [ltEn_no HNO.out], nx HB2.out HBX.out⟩
          · have u2 : decide ((200 : Int) < (d.mail.length : Int)) = false := decide_eq_false (by omega)
            by_cases t3 : 100 < d.texts.length
            · have u3 : decide ((100 : Int) < (d.texts.length : Int)) = true := decide_eq_true (by omega)
              have HNO : Hid (¬ LtEn x) := fun h => by have h1 := (HLT.out h d HMEM.out).2.2.2.1; omega
              clear t3
              go_wp2
              go_ret
              exact ⟨_, rfl, by show Value.bool _ = Value.bool _; rw [ltEn_no HNO.out], nx HB2.out HBX.out⟩
            · have u3 : decide ((100 : Int) < (d.texts.length : Int)) = false := decide_eq_false (by omega)
              by_cases t4 : 100 < d.nums.length
              · have u4 : decide ((100 : Int) < (d.nums.length : Int)) = true := decide_eq_true (by omega)
                have HNO : Hid (¬ LtEn x) := fun h => by have h1 := (HLT.out h d HMEM.out).2.2.2.2; omega
                clear t4
                go_wp2
                go_ret
                exact ⟨_, rfl, by show Value.bool _ = Value.bool _; rw [ltEn_no HNO.out], nx HB2.out HBX.out⟩
              · have u4 : decide ((100 : Int) < (d.nums.length : Int)) = false := decide_eq_false (by omega)
                go_wp2
                go_roundw
                case rel => exact ⟨i + 1, by go_num, by omega, allp_take HX.out HF.out ⟨by omega, by omega, by omega, by omega, by omega⟩, HBX.out⟩
                case measure => simp [intOf]; omega
    · have hie : i = n := by omega
      subst hie
      have HALL : Hid (∀ d ∈ x.f.set, LtD15 d) := by
        have h := HF.out
        rw [HN.out, List.take_length] at h
        exact h
      by_cases t0 : x.f.name.length ≤ 200
      rotate_left
      · have u0 : decide ((x.f.name.length : Int) ≤ 200) = false := decide_eq_false (by omega)
        have HNO : Hid (¬ LtEn x) := fun h => by have h1 := h.n; omega
        clear t0
        go_wp2
        go_ret
        exact ⟨_, rfl, by show Value.bool _ = Value.bool _; rw [ltEn_no HNO.out], nx HB2.out HBR.out⟩
      · have u0 : decide ((x.f.name.length : Int) ≤ 200) = true := decide_eq_true (by omega)
        by_cases t1 : x.f.zone.length ≤ 200
        rotate_left
        · have u1 : decide ((x.f.zone.length : Int) ≤ 200) = false := decide_eq_false (by omega)
          have HNO : Hid (¬ LtEn x) := fun h => by have h1 := h.z; omega
          clear t1
          go_wp2
          go_ret
          exact ⟨_, rfl, by show Value.bool _ = Value.bool _; rw [ltEn_no HNO.out], nx HB2.out HBR.out⟩
        · have u1 : decide ((x.f.zone.length : Int) ≤ 200) = true := decide_eq_true (by omega)
          by_cases t2 : i ≤ 100
          rotate_left
          · have u2 : decide ((i : Int) ≤ 100) = false := decide_eq_false (by omega)
            have HNO : Hid (¬ LtEn x) := fun h => by have h1 := h.l; have := HN.out; omega
            clear t2
            go_wp2
            go_ret
            exact ⟨_, rfl, by show Value.bool _ = Value.bool _; rw [ltEn_no HNO.out], nx HB2.out HBR.out⟩
          · have u2 : decide ((i : Int) ≤ 100) = true := decide_eq_true (by omega)
            by_cases t3 : x.zone.length ≤ 200
            rotate_left
            · have u3 : decide ((x.zone.length : Int) ≤ 200) = false := decide_eq_false (by omega)
              have HNO : Hid (¬ LtEn x) := fun h => by have h1 := h.Z; omega
              clear t3
              go_wp2
              go_ret
              exact ⟨_, rfl, by show Value.bool _ = Value.bool _; rw [ltEn_no HNO.out], nx HB2.out HBR.out⟩
            · have u3 : decide ((x.zone.length : Int) ≤ 200) = true := decide_eq_true (by omega)
              by_cases t4 : x.f.soa.host.length ≤ 200
              rotate_left
              · have u4 : decide ((x.f.soa.host.length : Int) ≤ 200) = false := decide_eq_false (by omega)
                have HNO : Hid (¬ LtEn x) := fun h => by have h1 := h.h; omega
                clear t4
                go_wp2
                go_ret
                exact ⟨_, rfl, by show Value.bool _ = Value.bool _; rw [ltEn_no HNO.out], nx HB2.out HBR.out⟩
              · have u4 : decide ((x.f.soa.host.length : Int) ≤ 200) = true := decide_eq_true (by omega)
                by_cases t5 : x.f.soa.mail.length ≤ 200
                rotate_left
                · have u5 : decide ((x.f.soa.mail.length : Int) ≤ 200) = false := decide_eq_false (by omega)
                  have HNO : Hid (¬ LtEn x) := fun h => by have h1 := h.m; omega
                  clear t5
                  go_wp2
                  go_ret
                  exact ⟨_, rfl, by show Value.bool _ = Value.bool _; rw [ltEn_no HNO.out], nx HB2.out HBR.out⟩
                · have u5 : decide ((x.f.soa.mail.length : Int) ≤ 200) = true := decide_eq_true (by omega)
                  by_cases t6 : x.f.soa.nums.length ≤ 100
                  rotate_left
                  · have u6 : decide ((x.f.soa.nums.length : Int) ≤ 100) = false := decide_eq_false (by omega)
                    have HNO : Hid (¬ LtEn x) := fun h => by have h1 := h.s; omega
                    clear t6
                    go_wp2
                    go_ret
                    exact ⟨_, rfl, by show Value.bool _ = Value.bool _; rw [ltEn_no HNO.out], nx HB2.out HBR.out⟩
                  · have u6 : decide ((x.f.soa.nums.length : Int) ≤ 100) = true := decide_eq_true (by omega)
                    have HOK : Hid (LtEn x) := HYES.out HALL.out (by omega) (by omega) (by have := HN.out; omega) (by omega) (by omega) (by omega) (by omega)
                    clear t0 t1 t2 t3 t4 t5 t6
                    go_wp2
                    go_ret
                    exact ⟨_, rfl, by show Value.bool _ = Value.bool _; rw [ltEn_yes HOK.out], nx HB2.out HBR.out⟩
end Go.Proofs.Ytimkdpkhdbiniaa
