/- Parts of a proof, joined: Law17K. -/
import Derived.Test.YtimkdpkhdbiniaaZKDZ11
import Derived.Test.YtimkdpkhdbiniaaZKDM23r
/- ZoneKeeps: the law's walk (printed by gen/law17k.py). -/
namespace Go.Proofs.Ytimkdpkhdbiniaa
open Go.RowKit
set_option maxRecDepth 100000
set_option linter.unusedVariables false

/-- A record in a row of records that may be written into. -/
theorem rrl_at {B : Nat} {So Si : Nat → Prop} {w : World} {A : Option Addr} {n : Nat} {xs : List RR} (h : Els (encRRL B) So Si w A n xs) {k : Nat} {r : RR} (hx : xs[k]? = some r) :
    ∃ b off s, A = some ⟨b, off, none⟩ ∧ So b ∧ RIn (fun b => Si b ∧ B ≤ b ∧ Loose w b) w s r ∧ RCells w b (off + k * 9) s r := by
  obtain ⟨b, off, rfl, hb, hat⟩ := Els.flat h (by rw [← h.len]; exact Nat.lt_of_le_of_lt (Nat.zero_le k) (List.getElem?_eq_some_iff.1 hx).1)
  obtain ⟨r', ⟨s, rfl, hr⟩, hc⟩ := hat k r hx
  refine ⟨b, off, s, rfl, hb, hr, ?_⟩
  have hc' : ∀ j u, (rrCells s r).toList[j]? = some u → w.cell? ⟨b, off + k * 9 + j, none⟩ = some u := fun j u hu => by rw [Nat.add_assoc]; exact hc j u hu
  exact ⟨hc' 0 _ rfl, hc' 1 _ rfl, hc' 2 _ rfl, hc' 3 _ rfl, hc' 4 _ rfl, hc' 5 _ rfl, hc' 6 _ rfl, hc' 7 _ rfl, hc' 8 _ rfl⟩
set_option maxHeartbeats 4000000 in
theorem zZoneKeeps_heavy (zA RA qA : Option Addr) (zn zc rn rc qn qc : Nat) (zs qs : List (List UInt8)) (rs : List RR) (ty cl : Int) (w : World) (h : RdE encRR w RA rn rs) (hz : RdE encS w zA zn zs) (hq : RdE encS w qA qn qs) (hzc : zn ≤ zc ∧ zc ≤ maxLen) (hrc : rn ≤ rc ∧ rc ≤ maxLen) (hqc : qn ≤ qc ∧ qc ≤ maxLen) (hL : ltZ zs rs = false) :
    Calls Try.prog 13 #[.agg #[.slice zA zn zc, .slice RA rn rc], .agg #[.slice qA qn qc, .int .i64 ty, .int .i64 cl]] w (LawT w) := by
  have er := h.len
  subst er
  have eq := hq.len
  have ez := hz.len
  obtain ⟨w1, hw1⟩ : ∃ w1, w1 = w.alloc (.cells #[.slice zA zn zc, .slice RA rs.length rc] 75) := ⟨_, rfl⟩
  obtain ⟨w2, hw2⟩ : ∃ w2, w2 = w1.alloc (.cells #[.slice qA qn qc, .int .i64 ty, .int .i64 cl] 25) := ⟨_, rfl⟩
  obtain ⟨zb, hzb⟩ : ∃ g, g = w.heap.size := ⟨_, rfl⟩
  obtain ⟨qb, hqb⟩ : ∃ g, g = zb + 1 := ⟨_, rfl⟩
  have hb1 : Below w.heap.size w w1 := by rw [hw1]; exact bl.alloc (Nat.le_refl _) _
  have hb2 : Below w1.heap.size w1 w2 := by rw [hw2]; exact bl.alloc (Nat.le_refl _) _
  have hs1 : w1.heap.size = qb := by rw [hqb, hzb, hw1]; simp
  have hs2 : w2.heap.size = zb + 2 := by rw [hw2]; simp; omega
  have hc0 : w2.cell? ⟨zb, 0, none⟩ = some (.slice zA zn zc) := below_cell hb2 (by rw [hw1, hzb]; exact new_cell w _ _ 0)
  have hc1 : w2.cell? ⟨zb, 1, none⟩ = some (.slice RA rs.length rc) := below_cell hb2 (by rw [hw1, hzb]; exact new_cell w _ _ 1)
  have hc2 : w2.cell? ⟨qb, 0, none⟩ = some (.slice qA qn qc) := by rw [hw2, ← hs1]; exact new_cell w1 _ _ 0
  have hc3 : w2.cell? ⟨qb, 1, none⟩ = some (.int .i64 ty) := by rw [hw2, ← hs1]; exact new_cell w1 _ _ 1
  have hc4 : w2.cell? ⟨qb, 2, none⟩ = some (.int .i64 cl) := by rw [hw2, ← hs1]; exact new_cell w1 _ _ 2
  have HC : Hid (∀ u, Below w2.heap.size w2 u → u.cell? ⟨zb, 0, none⟩ = some (.slice zA zn zc) ∧ u.cell? ⟨zb, 1, none⟩ = some (.slice RA rs.length rc) ∧ u.cell? ⟨qb, 0, none⟩ = some (.slice qA qn qc) ∧ u.cell? ⟨qb, 1, none⟩ = some (.int .i64 ty) ∧ u.cell? ⟨qb, 2, none⟩ = some (.int .i64 cl)) := fun u hu => ⟨below_cell hu hc0, below_cell hu hc1, below_cell hu hc2, below_cell hu hc3, below_cell hu hc4⟩
  have HB2 : Hid (Below w.heap.size w w2) := nx hb1 hb2
  have HS : Hid (zb = w.heap.size ∧ qb = zb + 1 ∧ w2.heap.size = zb + 2) := ⟨hzb, hqb, hs2⟩
  have HR : Hid (∀ u, Below w.heap.size w u → Els encRR (ltS w) (ltS w) u RA rs.length rs) := fun u hu => h.keep (fun b hb => hu.block b hb) (fun b hb => hu.block b hb)
  have HZ : Hid (∀ u, Below w.heap.size w u → Els encS (ltS w) (ltS w) u zA zn zs) := fun u hu => hz.keep (fun b hb => hu.block b hb) (fun b hb => hu.block b hb)
  have HQ : Hid (∀ u, Below w.heap.size w u → Els encS (ltS w) (ltS w) u qA qn qs) := fun u hu => hq.keep (fun b hb => hu.block b hb) (fun b hb => hu.block b hb)
  have HLI : Hid (∀ u, Below w2.heap.size w2 u → Calls Try.prog 39 #[.agg #[.slice zA zn zc, .slice RA rs.length rc]] u (RetP (fun v _ => v = .bool (ltZ zs rs)) u)) := fun u hu => lightZ_any zA RA zn zc rs.length rc zs rs u (HR.out u (nx HB2.out hu)) (fun b hb => Nat.lt_of_lt_of_le hb (nx HB2.out hu).size) ez hrc (Nat.le_trans hzc.1 hzc.2)
  have HLE : Hid (zs.length = zn ∧ qs.length = qn) := ⟨ez, eq⟩
  have HCC : Hid ((zn ≤ zc ∧ zc ≤ maxLen) ∧ (rs.length ≤ rc ∧ rc ≤ maxLen) ∧ (qn ≤ qc ∧ qc ≤ maxLen)) := ⟨hzc, hrc, hqc⟩
  rw [hL] at HLI
  clear h hL hz hq hzc hrc hqc eq ez hb1 hb2 hc0 hc1 hc2 hc3 hc4
  go_enter Try.func13, Try.ntmps13
  go_upto_region 1 with (fail)
  rw [← hw1]
  rw [← hw2]
  clear hw1 hw2
  rw [← hzb]
  rw [← hqb]
  clear hzb hqb hs1 hs2
  obtain ⟨x0, x1, x2, x3, x4⟩ := HC.out w2 bl
  go_wp2_with (first | (go_at_call 38; (with_reducible refine (answers17_any w4).mono ?_); rintro e w5 ⟨rfl, hb5⟩; have HB5 := Lib.hid hb5; clear hb5) | (go_at_call 39; (with_reducible refine (HLI.out w3 HB3.out).mono ?_); rintro e w4 ⟨v4, rfl, rfl, hb4⟩; have HB4 := Lib.hid hb4; obtain ⟨y0, y1, y2, y3, y4⟩ := HC.out w4 (nx HB3.out hb4); clear hb4) | (go_at_call 38; (with_reducible refine (answers17_any w2).mono ?_); rintro e w3 ⟨rfl, hb3⟩; have HB3 := Lib.hid hb3; obtain ⟨a0, a1, a2, a3, a4⟩ := HC.out w3 hb3; clear hb3) | fail)
  go_ret
  exact ⟨rfl, (nx (nx (nx HB2.out HB3.out) HB4.out) HB5.out)⟩
set_option maxHeartbeats 4000000 in
theorem zZoneKeeps_name (zA RA qA : Option Addr) (zn zc rn rc qn qc : Nat) (zs qs : List (List UInt8)) (rs : List RR) (ty cl : Int) (w : World) (h : RdE encRR w RA rn rs) (hz : RdE encS w zA zn zs) (hq : RdE encS w qA qn qs) (hzc : zn ≤ zc ∧ zc ≤ maxLen) (hrc : rn ≤ rc ∧ rc ≤ maxLen) (hqc : qn ≤ qc ∧ qc ≤ maxLen) (hL : ltZ zs rs = true) (hl : ¬ qn ≤ 130) :
    Calls Try.prog 13 #[.agg #[.slice zA zn zc, .slice RA rn rc], .agg #[.slice qA qn qc, .int .i64 ty, .int .i64 cl]] w (LawT w) := by
  have er := h.len
  subst er
  have eq := hq.len
  have ez := hz.len
  obtain ⟨w1, hw1⟩ : ∃ w1, w1 = w.alloc (.cells #[.slice zA zn zc, .slice RA rs.length rc] 75) := ⟨_, rfl⟩
  obtain ⟨w2, hw2⟩ : ∃ w2, w2 = w1.alloc (.cells #[.slice qA qn qc, .int .i64 ty, .int .i64 cl] 25) := ⟨_, rfl⟩
  obtain ⟨zb, hzb⟩ : ∃ g, g = w.heap.size := ⟨_, rfl⟩
  obtain ⟨qb, hqb⟩ : ∃ g, g = zb + 1 := ⟨_, rfl⟩
  have hb1 : Below w.heap.size w w1 := by rw [hw1]; exact bl.alloc (Nat.le_refl _) _
  have hb2 : Below w1.heap.size w1 w2 := by rw [hw2]; exact bl.alloc (Nat.le_refl _) _
  have hs1 : w1.heap.size = qb := by rw [hqb, hzb, hw1]; simp
  have hs2 : w2.heap.size = zb + 2 := by rw [hw2]; simp; omega
  have hc0 : w2.cell? ⟨zb, 0, none⟩ = some (.slice zA zn zc) := below_cell hb2 (by rw [hw1, hzb]; exact new_cell w _ _ 0)
  have hc1 : w2.cell? ⟨zb, 1, none⟩ = some (.slice RA rs.length rc) := below_cell hb2 (by rw [hw1, hzb]; exact new_cell w _ _ 1)
  have hc2 : w2.cell? ⟨qb, 0, none⟩ = some (.slice qA qn qc) := by rw [hw2, ← hs1]; exact new_cell w1 _ _ 0
  have hc3 : w2.cell? ⟨qb, 1, none⟩ = some (.int .i64 ty) := by rw [hw2, ← hs1]; exact new_cell w1 _ _ 1
  have hc4 : w2.cell? ⟨qb, 2, none⟩ = some (.int .i64 cl) := by rw [hw2, ← hs1]; exact new_cell w1 _ _ 2
  have HC : Hid (∀ u, Below w2.heap.size w2 u → u.cell? ⟨zb, 0, none⟩ = some (.slice zA zn zc) ∧ u.cell? ⟨zb, 1, none⟩ = some (.slice RA rs.length rc) ∧ u.cell? ⟨qb, 0, none⟩ = some (.slice qA qn qc) ∧ u.cell? ⟨qb, 1, none⟩ = some (.int .i64 ty) ∧ u.cell? ⟨qb, 2, none⟩ = some (.int .i64 cl)) := fun u hu => ⟨below_cell hu hc0, below_cell hu hc1, below_cell hu hc2, below_cell hu hc3, below_cell hu hc4⟩
  have HB2 : Hid (Below w.heap.size w w2) := nx hb1 hb2
  have HS : Hid (zb = w.heap.size ∧ qb = zb + 1 ∧ w2.heap.size = zb + 2) := ⟨hzb, hqb, hs2⟩
  have HR : Hid (∀ u, Below w.heap.size w u → Els encRR (ltS w) (ltS w) u RA rs.length rs) := fun u hu => h.keep (fun b hb => hu.block b hb) (fun b hb => hu.block b hb)
  have HZ : Hid (∀ u, Below w.heap.size w u → Els encS (ltS w) (ltS w) u zA zn zs) := fun u hu => hz.keep (fun b hb => hu.block b hb) (fun b hb => hu.block b hb)
  have HQ : Hid (∀ u, Below w.heap.size w u → Els encS (ltS w) (ltS w) u qA qn qs) := fun u hu => hq.keep (fun b hb => hu.block b hb) (fun b hb => hu.block b hb)
  have HLI : Hid (∀ u, Below w2.heap.size w2 u → Calls Try.prog 39 #[.agg #[.slice zA zn zc, .slice RA rs.length rc]] u (RetP (fun v _ => v = .bool (ltZ zs rs)) u)) := fun u hu => lightZ_any zA RA zn zc rs.length rc zs rs u (HR.out u (nx HB2.out hu)) (fun b hb => Nat.lt_of_lt_of_le hb (nx HB2.out hu).size) ez hrc (Nat.le_trans hzc.1 hzc.2)
  have HLE : Hid (zs.length = zn ∧ qs.length = qn) := ⟨ez, eq⟩
  have HCC : Hid ((zn ≤ zc ∧ zc ≤ maxLen) ∧ (rs.length ≤ rc ∧ rc ≤ maxLen) ∧ (qn ≤ qc ∧ qc ≤ maxLen)) := ⟨hzc, hrc, hqc⟩
  rw [hL] at HLI
  have h1d : decide ((130 : Int) < (qn : Int)) = true := decide_eq_true (by omega)
  clear h hL hl hz hq hzc hrc hqc eq ez hb1 hb2 hc0 hc1 hc2 hc3 hc4
  go_enter Try.func13, Try.ntmps13
  go_upto_region 1 with (fail)
  rw [← hw1]
  rw [← hw2]
  clear hw1 hw2
  rw [← hzb]
  rw [← hqb]
  clear hzb hqb hs1 hs2
  obtain ⟨x0, x1, x2, x3, x4⟩ := HC.out w2 bl
  go_wp2_with (first | (go_at_call 38; (with_reducible refine (answers17_any w4).mono ?_); rintro e w5 ⟨rfl, hb5⟩; have HB5 := Lib.hid hb5; clear hb5) | (go_at_call 39; (with_reducible refine (HLI.out w3 HB3.out).mono ?_); rintro e w4 ⟨v4, rfl, rfl, hb4⟩; have HB4 := Lib.hid hb4; obtain ⟨y0, y1, y2, y3, y4⟩ := HC.out w4 (nx HB3.out hb4); clear hb4) | (go_at_call 38; (with_reducible refine (answers17_any w2).mono ?_); rintro e w3 ⟨rfl, hb3⟩; have HB3 := Lib.hid hb3; obtain ⟨a0, a1, a2, a3, a4⟩ := HC.out w3 hb3; clear hb3) | fail)
  go_ret
  exact ⟨rfl, (nx (nx (nx HB2.out HB3.out) HB4.out) HB5.out)⟩
set_option maxHeartbeats 16000000 in
theorem zZoneKeeps_main (zA RA qA : Option Addr) (zn zc rn rc qn qc : Nat) (zs qs : List (List UInt8)) (rs : List RR) (ty cl : Int) (w : World) (h : RdE encRR w RA rn rs) (hz : RdE encS w zA zn zs) (hq : RdE encS w qA qn qs) (hzc : zn ≤ zc ∧ zc ≤ maxLen) (hrc : rn ≤ rc ∧ rc ≤ maxLen) (hqc : qn ≤ qc ∧ qc ≤ maxLen) (hL : LtZ zs rs) (hl : qn ≤ 130) :
    Calls Try.prog 13 #[.agg #[.slice zA zn zc, .slice RA rn rc], .agg #[.slice qA qn qc, .int .i64 ty, .int .i64 cl]] w (LawT w) := by
  have er := h.len
  subst er
  have eq := hq.len
  have ez := hz.len
  obtain ⟨w1, hw1⟩ : ∃ w1, w1 = w.alloc (.cells #[.slice zA zn zc, .slice RA rs.length rc] 75) := ⟨_, rfl⟩
  obtain ⟨w2, hw2⟩ : ∃ w2, w2 = w1.alloc (.cells #[.slice qA qn qc, .int .i64 ty, .int .i64 cl] 25) := ⟨_, rfl⟩
  obtain ⟨zb, hzb⟩ : ∃ g, g = w.heap.size := ⟨_, rfl⟩
  obtain ⟨qb, hqb⟩ : ∃ g, g = zb + 1 := ⟨_, rfl⟩
  have hb1 : Below w.heap.size w w1 := by rw [hw1]; exact bl.alloc (Nat.le_refl _) _
  have hb2 : Below w1.heap.size w1 w2 := by rw [hw2]; exact bl.alloc (Nat.le_refl _) _
  have hs1 : w1.heap.size = qb := by rw [hqb, hzb, hw1]; simp
  have hs2 : w2.heap.size = zb + 2 := by rw [hw2]; simp; omega
  have hc0 : w2.cell? ⟨zb, 0, none⟩ = some (.slice zA zn zc) := below_cell hb2 (by rw [hw1, hzb]; exact new_cell w _ _ 0)
  have hc1 : w2.cell? ⟨zb, 1, none⟩ = some (.slice RA rs.length rc) := below_cell hb2 (by rw [hw1, hzb]; exact new_cell w _ _ 1)
  have hc2 : w2.cell? ⟨qb, 0, none⟩ = some (.slice qA qn qc) := by rw [hw2, ← hs1]; exact new_cell w1 _ _ 0
  have hc3 : w2.cell? ⟨qb, 1, none⟩ = some (.int .i64 ty) := by rw [hw2, ← hs1]; exact new_cell w1 _ _ 1
  have hc4 : w2.cell? ⟨qb, 2, none⟩ = some (.int .i64 cl) := by rw [hw2, ← hs1]; exact new_cell w1 _ _ 2
  have HC : Hid (∀ u, Below w2.heap.size w2 u → u.cell? ⟨zb, 0, none⟩ = some (.slice zA zn zc) ∧ u.cell? ⟨zb, 1, none⟩ = some (.slice RA rs.length rc) ∧ u.cell? ⟨qb, 0, none⟩ = some (.slice qA qn qc) ∧ u.cell? ⟨qb, 1, none⟩ = some (.int .i64 ty) ∧ u.cell? ⟨qb, 2, none⟩ = some (.int .i64 cl)) := fun u hu => ⟨below_cell hu hc0, below_cell hu hc1, below_cell hu hc2, below_cell hu hc3, below_cell hu hc4⟩
  have HB2 : Hid (Below w.heap.size w w2) := nx hb1 hb2
  have HS : Hid (zb = w.heap.size ∧ qb = zb + 1 ∧ w2.heap.size = zb + 2) := ⟨hzb, hqb, hs2⟩
  have HR : Hid (∀ u, Below w.heap.size w u → Els encRR (ltS w) (ltS w) u RA rs.length rs) := fun u hu => h.keep (fun b hb => hu.block b hb) (fun b hb => hu.block b hb)
  have HZ : Hid (∀ u, Below w.heap.size w u → Els encS (ltS w) (ltS w) u zA zn zs) := fun u hu => hz.keep (fun b hb => hu.block b hb) (fun b hb => hu.block b hb)
  have HQ : Hid (∀ u, Below w.heap.size w u → Els encS (ltS w) (ltS w) u qA qn qs) := fun u hu => hq.keep (fun b hb => hu.block b hb) (fun b hb => hu.block b hb)
  have HLI : Hid (∀ u, Below w2.heap.size w2 u → Calls Try.prog 39 #[.agg #[.slice zA zn zc, .slice RA rs.length rc]] u (RetP (fun v _ => v = .bool (ltZ zs rs)) u)) := fun u hu => lightZ_any zA RA zn zc rs.length rc zs rs u (HR.out u (nx HB2.out hu)) (fun b hb => Nat.lt_of_lt_of_le hb (nx HB2.out hu).size) ez hrc (Nat.le_trans hzc.1 hzc.2)
  have HLE : Hid (zs.length = zn ∧ qs.length = qn) := ⟨ez, eq⟩
  have HCC : Hid ((zn ≤ zc ∧ zc ≤ maxLen) ∧ (rs.length ≤ rc ∧ rc ≤ maxLen) ∧ (qn ≤ qc ∧ qc ≤ maxLen)) := ⟨hzc, hrc, hqc⟩
  rw [ltZ_yes hL] at HLI
  have h1d : decide ((130 : Int) < (qn : Int)) = false := decide_eq_false (by omega)
  have HL := Lib.hid hL
  have HQL : Hid (qn ≤ 130) := hl
  clear h hL hz hq hzc hrc hqc eq ez hb1 hb2 hc0 hc1 hc2 hc3 hc4
  go_enter Try.func13, Try.ntmps13
  go_upto_region 1 with (fail)
  rw [← hw1]
  rw [← hw2]
  clear hw1 hw2
  rw [← hzb]
  rw [← hqb]
  clear hzb hqb hs1 hs2
  obtain ⟨x0, x1, x2, x3, x4⟩ := HC.out w2 bl
  go_upto_region 3 with (first | (go_at_call 39; (with_reducible refine (HLI.out w3 HB3.out).mono ?_); rintro e w4 ⟨v4, rfl, rfl, hb4⟩; have HB4 := Lib.hid hb4; obtain ⟨y0, y1, y2, y3, y4⟩ := HC.out w4 (nx HB3.out hb4); clear hb4) | (go_at_call 38; (with_reducible refine (answers17_any w2).mono ?_); rintro e w3 ⟨rfl, hb3⟩; have HB3 := Lib.hid hb3; obtain ⟨a0, a1, a2, a3, a4⟩ := HC.out w3 hb3; clear hb3) | fail)
  clear x0 x1 x2 x3 x4 a0 a1 a2 a3 a4 h1d hl
  have HB24 : Hid (Below w2.heap.size w2 w4) := nx HB3.out HB4.out
  go_upto_region 4 with (go_at_call 43; refine (zownZ_any zA RA zn zc rs.length rc zs rs w4 ((HR.out w4 (nx HB2.out HB24.out)).mono (fun b hb => Nat.lt_of_lt_of_le hb (nx HB2.out HB24.out).size) (fun b hb => Nat.lt_of_lt_of_le hb (nx HB2.out HB24.out).size)) ((HZ.out w4 (nx HB2.out HB24.out)).mono (fun b hb => Nat.lt_of_lt_of_le hb (nx HB2.out HB24.out).size) (fun b hb => Nat.lt_of_lt_of_le hb (nx HB2.out HB24.out).size)) HL.out).mono ?_; rintro e w5 ⟨v5, rfl, ⟨A5, c5, R5, k5, rfl, ho5⟩, hb5⟩; have HO5 := Lib.hid ho5; have HB5 := Lib.hid hb5; clear ho5 hb5)
  clear y0 y1 y2 y3 y4
  obtain ⟨w6, hw6⟩ : ∃ u, u = w5.alloc (.cells #[.slice A5 zn c5, .slice R5 rs.length k5] 75) := ⟨_, rfl⟩
  obtain ⟨ib, hib⟩ : ∃ g, g = w5.heap.size := ⟨_, rfl⟩
  have HB6 : Hid (Below w5.heap.size w5 w6) := by show Below _ _ _; rw [hw6]; exact bl.alloc (Nat.le_refl _) _
  have hi0 : w6.cell? ⟨ib, 0, none⟩ = some (.slice A5 zn c5) := by rw [hw6, hib]; exact new_cell w5 _ _ 0
  have hi1 : w6.cell? ⟨ib, 1, none⟩ = some (.slice R5 rs.length k5) := by rw [hw6, hib]; exact new_cell w5 _ _ 1
  have HI6 : Hid (w6.cell? ⟨ib, 0, none⟩ = some (.slice A5 zn c5) ∧ w6.cell? ⟨ib, 1, none⟩ = some (.slice R5 rs.length k5)) := ⟨hi0, hi1⟩
  have HW6 : Hid (Below w2.heap.size w2 w6) := nx (nx HB24.out HB5.out) HB6.out
  have HOZ : Hid (∀ u, Below w5.heap.size w5 u → Els encS (geS w4.heap.size w5) (geS w4.heap.size w5) u A5 zn zs ∧ Els encRR (geS w4.heap.size w5) (geS w4.heap.size w5) u R5 rs.length rs) := fun u hu => ⟨HO5.out.z.keep (fun b hb => hu.block b hb.2) (fun b hb => hu.block b hb.2), HO5.out.r.keep (fun b hb => hu.block b hb.2) (fun b hb => hu.block b hb.2)⟩
  rw [← hw6]
  clear hw6
  rw [← hib]
  clear hib hi0 hi1
  obtain ⟨a0, a1, a2, a3, a4⟩ := HC.out w6 HW6.out
  obtain ⟨b0, b1, b2, b3, b4⟩ := HC.out (w6.alloc (.cells #[] 9)) (nx HW6.out (bl.alloc (Nat.le_refl _) _))
  have HQE : Hid (Els encS (ltS w) (ltS w) w6 qA qn qs) := HQ.out w6 (nx HB2.out HW6.out)
  go_upto_region 5 with ((with_reducible show wpList _ _ _ (⟨some 34, _, _, _, _, _⟩ :: _) _ _); refine wpL_cloneS rfl (.tmp 31) (.tmp 33) rfl rfl qA qn qc qs rfl HQE.out (by have := HQL.out; omega) ?_; intro v7 w7 hown7 hb7; obtain ⟨A7, c7, hv7, _⟩ := OwnE.form hown7; rw [HLE.out.2] at hv7; have HO7 := Lib.hid hown7; have HB7 := Lib.hid hb7; clear hown7 hb7; subst hv7)
  clear a0 a1 a2 a3 a4 b0 b1 b2 b3 b4
  have HW7 : Hid (Below w2.heap.size w2 w7) := nx HW6.out HB7.out
  have HW57 : Hid (Below w5.heap.size w5 w7) := nx HB6.out HB7.out
  obtain ⟨a0, a1, a2, a3, a4⟩ := HC.out w7 HW7.out
  have i0 := below_cell HB7.out HI6.out.1
  have i1 := below_cell HB7.out HI6.out.2
  obtain ⟨M, hM⟩ : ∃ M, M = answerP zs rs ⟨qs, ty, cl⟩ := ⟨_, rfl⟩
  have HMD : Hid (Made rs (2 * rs.length + 1) M) := by show Made _ _ _; rw [hM]; exact answerP_made zs rs _
  have HAN := Lib.hid (zanswer_any A5 R5 qA zn c5 rs.length k5 qn qc zs qs rs ty cl w7 ((HOZ.out w7 HW57.out).2.mono (fun b hb => Nat.lt_of_lt_of_le hb.2 HW57.out.size) (fun b hb => Nat.lt_of_lt_of_le hb.2 HW57.out.size)) ((HOZ.out w7 HW57.out).1.mono (fun b hb => Nat.lt_of_lt_of_le hb.2 HW57.out.size) (fun b hb => Nat.lt_of_lt_of_le hb.2 HW57.out.size)) ((HQ.out w7 (nx HB2.out HW7.out)).mono (fun b hb => Nat.lt_of_lt_of_le hb (nx HB2.out HW7.out).size) (fun b hb => Nat.lt_of_lt_of_le hb (nx HB2.out HW7.out).size)) HO5.out.cz HO5.out.cr.1 (by have := HL.out.n; omega) (by have := HL.out.z; have := HLE.out.1; omega) (by have := HQL.out; omega) (fun r hr => (HL.out.r r hr).lightR) (fun r hr => (HL.out.r r hr).lt9) (fun r hr => by have := HL.out.r r hr; exact ⟨by have := this.2.2.1; omega, by have := this.1; omega⟩))
  rw [← hM] at HAN
  clear hM
  obtain ⟨B, hB⟩ : ∃ b, b = w7.heap.size := ⟨_, rfl⟩
  rw [← hB] at HAN
  have HBE := Lib.hid hB
  clear hB
  go_upto_region 6 with (go_at_call 42; refine HAN.out.mono ?_; rintro e w8 ⟨v8, rfl, ⟨s8, rfl, ho8⟩, hb8⟩; have HO8 := Lib.hid ho8; have HB8 := Lib.hid hb8; unfold msV mCells; clear ho8 hb8)
  clear a0 a1 a2 a3 a4 i0 i1
  obtain ⟨w9, hw9⟩ : ∃ u, u = w8.alloc (.cells (mCells s8 M) 31) := ⟨_, rfl⟩
  obtain ⟨mb, hmb⟩ : ∃ g, g = w8.heap.size := ⟨_, rfl⟩
  have HB9 : Hid (Below w8.heap.size w8 w9) := by show Below _ _ _; rw [hw9]; exact bl.alloc (Nat.le_refl _) _
  have HM9 : Hid (MRow w9 mb s8 M) := by show MRow _ _ _ _; rw [hw9, hmb]; exact MRow.made w8 _ _
  have HS9 : Hid (B ≤ w8.heap.size ∧ mb = w8.heap.size) := ⟨by rw [HBE.out]; exact HB8.out.size, hmb⟩
  unfold mCells at hw9
  rw [← hw9]
  clear hw9
  rw [← hmb]
  clear hmb
  obtain ⟨Sa, Su, Sx, ha, hu, hx, hau, hax, hux⟩ := HO8.out.L
  have HLa : Hid (M.an.length ≤ 201 ∧ M.au.length ≤ 100 ∧ M.ex.length ≤ 100) := by
    have h1 := HMD.out.la; have h2 := HMD.out.lu; have h3 := HMD.out.lx; have h4 := HL.out.n
    exact ⟨by omega, by omega, by omega⟩
  have hform : ∀ {A : Option Addr} {c : Nat} {xs : List RR} {S : Nat → Prop}, RB B w8 (.slice A xs.length c) xs S → Els (encRRL B) (fun b => (Value.slice A xs.length c).ownBlock = some b) S w8 A xs.length xs := fun {A c xs S} h => by
    obtain ⟨A', c', hv, he, _, _⟩ := OwnE.form h.o
    injection hv with e1 e2 e3
    subst e1
    exact he
  have HEa : Hid (∀ u, Below w8.heap.size w8 u → Els (encRRL B) (fun b => (Value.slice s8.A M.an.length s8.ac).ownBlock = some b) Sa u s8.A M.an.length M.an) := fun u hb => (hform ha).below hb (fun b hb => ha.lt (.inl hb)) (fun b hb => ha.lt (.inr hb))
  have HEu : Hid (∀ u, Below w8.heap.size w8 u → Els (encRRL B) (fun b => (Value.slice s8.U M.au.length s8.uc).ownBlock = some b) Su u s8.U M.au.length M.au) := fun u hb => (hform hu).below hb (fun b hb => hu.lt (.inl hb)) (fun b hb => hu.lt (.inr hb))
  have HEx : Hid (∀ u, Below w8.heap.size w8 u → Els (encRRL B) (fun b => (Value.slice s8.X M.ex.length s8.xc).ownBlock = some b) Sx u s8.X M.ex.length M.ex) := fun u hb => (hform hx).below hb (fun b hb => hx.lt (.inl hb)) (fun b hb => hx.lt (.inr hb))
  have HSl : Hid ((∀ b, Sa b → B ≤ b ∧ b < w8.heap.size) ∧ (∀ b, Su b → B ≤ b ∧ b < w8.heap.size) ∧ ∀ b, Sx b → B ≤ b ∧ b < w8.heap.size) := ⟨fun b hb => ⟨ha.ge b hb, ha.lt (.inr hb)⟩, fun b hb => ⟨hu.ge b hb, hu.lt (.inr hb)⟩, fun b hb => ⟨hx.ge b hb, hx.lt (.inr hb)⟩⟩
  clear hform ha hu hx hau hax hux
  have hS9 : MRow w9.drew mb s8 M := HM9.out
  refine wp_region_any (by kernel_rfl) ?_
  change wpAny _ _ _ _ _ _ _ (World.drew w9)
  refine wpAny_of_P (S := fun W => MRow W mb s8 M) (dem := fun _ => true) _ _ _ _ ?_
  refine wpAnyP_take (i := 1) (v := .pointer (some ⟨mb, 9, none⟩)) rfl (by kernel_rfl) (by kernel_rfl) (by kernel_rfl) (by kernel_rfl) (by kernel_rfl) (fun _ _ _ h => h) (Or.inl ⟨by kernel_rfl, by (intro W hW; go_simp)⟩) hS9 ?_
  refine wpAnyP_take (i := 2) (v := .slice s8.A M.an.length s8.ac) rfl (by kernel_rfl) (by kernel_rfl) (by kernel_rfl) (by kernel_rfl) (by kernel_rfl) (fun _ _ _ h => h) (Or.inl ⟨by kernel_rfl, by (intro W hW; have c0 : W.cell? ⟨mb, 9, none⟩ = some (.slice s8.A M.an.length s8.ac) := (MRow.cell hW 9).trans rfl; go_simp)⟩) hS9 ?_
  refine wpAnyP_take (i := 4) (v := .pointer (some ⟨mb, 10, none⟩)) rfl (by kernel_rfl) (by kernel_rfl) (by kernel_rfl) (by kernel_rfl) (by kernel_rfl) (fun _ _ _ h => h) (Or.inl ⟨by kernel_rfl, by (intro W hW; go_simp)⟩) hS9 ?_
  refine wpAnyP_take (i := 5) (v := .slice s8.U M.au.length s8.uc) rfl (by kernel_rfl) (by kernel_rfl) (by kernel_rfl) (by kernel_rfl) (by kernel_rfl) (fun _ _ _ h => h) (Or.inl ⟨by kernel_rfl, by (intro W hW; have c0 : W.cell? ⟨mb, 10, none⟩ = some (.slice s8.U M.au.length s8.uc) := (MRow.cell hW 10).trans rfl; go_simp)⟩) hS9 ?_
  refine wpAnyP_take (i := 7) (v := .pointer (some ⟨mb, 11, none⟩)) rfl (by kernel_rfl) (by kernel_rfl) (by kernel_rfl) (by kernel_rfl) (by kernel_rfl) (fun _ _ _ h => h) (Or.inl ⟨by kernel_rfl, by (intro W hW; go_simp)⟩) hS9 ?_
  refine wpAnyP_take (i := 8) (v := .slice s8.X M.ex.length s8.xc) rfl (by kernel_rfl) (by kernel_rfl) (by kernel_rfl) (by kernel_rfl) (by kernel_rfl) (fun _ _ _ h => h) (Or.inl ⟨by kernel_rfl, by (intro W hW; have c0 : W.cell? ⟨mb, 11, none⟩ = some (.slice s8.X M.ex.length s8.xc) := (MRow.cell hW 11).trans rfl; go_simp)⟩) hS9 ?_
  obtain ⟨b10, hb10⟩ : ∃ b, b = w9.drew.heap.size := ⟨_, rfl⟩
  obtain ⟨w10, hw10⟩ : ∃ u, u = w9.drew.alloc (.cells #[] 84) := ⟨_, rfl⟩
  have HB10 : Hid (Below w9.drew.heap.size w9.drew w10) := by show Below _ _ _; rw [hw10]; exact bl.alloc (Nat.le_refl _) _
  have HO10 : Hid (OwnE (encRRL B) 84 noS w10 b10 (.slice (some ⟨b10, 0, none⟩) 0 0) []) := by show OwnE _ _ _ _ _ _ _; rw [hw10, hb10]; exact ownE_lit0 (fun _ h => h.elim) (Nat.le_refl _)
  have HB810 : Hid (Below w8.heap.size w8 w10) := nx (HB9.out.drew) HB10.out
  have HBX : Hid (b10 = w9.heap.size ∧ w8.heap.size ≤ w9.heap.size) := ⟨hb10, HB9.out.size⟩
  have HBD := Lib.hid hb10
  have HW10 := Lib.hid hw10
  clear hb10 hw10
  have HSS : Hid (∀ (S : Nat → Prop), (∀ b, S b → B ≤ b ∧ b < w8.heap.size) → ∀ (W : World) (v : Value), Below w8.heap.size w8 W → (∀ k, v.ownBlock = some k → b10 ≤ k) → ∀ b, S b → b < W.heap.size ∧ some b ≠ v.ownBlock) := fun S hS W v hW hv b hb => ⟨Nat.lt_of_lt_of_le (hS b hb).2 hW.size, fun e => by have h1 := hv b e.symm; have h2 := (hS b hb).2; have h3 := HBX.out; omega⟩
  refine wpAnyP_one (i := 0) rfl (by kernel_rfl) fun K hK => ?_
  go_simp
  refine hK _ (w9.drew.alloc (.cells #[] 84)) (fun _ => by rw [← HW10.out]; exact MRow.below (w := w9.drew) hS9 HB10.out) ?_
  clear hK
  rw [← HW10.out]
  have HR10 : Hid (MRow w10 mb s8 M) := MRow.below (w := w9.drew) hS9 HB10.out
  refine wpAnyP_one (i := 3) rfl (by kernel_rfl) fun K hK => ?_
  refine step_appE (w := w10) (elRRL B) (by kernel_rfl) (.tmp 38) (.tmp 40) rfl b10 (.slice (some ⟨b10, 0, none⟩) 0 0) [] (by rw [HBD.out]; rfl) HO10.out s8.A M.an.length s8.ac M.an (HEa.out w10 HB810.out) (HSS.out Sa HSl.out.1 w10 _ HB810.out (fun k hk => (OwnE.lt HO10.out k hk).1)) rfl (by have := HLa.out; simp; omega) (by have := HLa.out; unfold maxLen; simp; omega) (by rw [HBD.out]; exact HB10.out.size) ?_
  intro v11 w11 hown11 hg11 hat11
  have HO11 := Lib.hid hown11
  have HB11 : Hid (Below w9.drew.heap.size w9.drew w11) := Below.grown HB10.out hg11 HB10.out.size (fun k hk => by have := (OwnE.lt HO10.out k hk).1; rw [HBD.out] at this; exact this)
  have HB811 : Hid (Below w8.heap.size w8 w11) := nx (HB9.out.drew) HB11.out
  have HR11 : Hid (MRow w11 mb s8 M) := MRow.below (w := w9.drew) hS9 HB11.out
  refine hK _ _ (fun _ => HR11.out) ?_
  clear hK hown11 hg11 hat11
  refine wpAnyP_one (i := 6) rfl (by kernel_rfl) fun K hK => ?_
  refine step_appE (w := w11) (elRRL B) (by kernel_rfl) (.tmp 41) (.tmp 43) rfl b10 v11 ([] ++ M.an) rfl HO11.out s8.U M.au.length s8.uc M.au (HEu.out w11 HB811.out) (HSS.out Su HSl.out.2.1 w11 _ HB811.out (fun k hk => (OwnE.lt HO11.out k hk).1)) rfl (by have := HLa.out; simp; omega) (by have := HLa.out; unfold maxLen; simp; omega) (by rw [HBD.out]; exact HB11.out.size) ?_
  intro v12 w12 hown12 hg12 hat12
  have HO12 := Lib.hid hown12
  have HB12 : Hid (Below w9.drew.heap.size w9.drew w12) := Below.grown HB11.out hg12 HB11.out.size (fun k hk => by have := (OwnE.lt HO11.out k hk).1; rw [HBD.out] at this; exact this)
  have HB812 : Hid (Below w8.heap.size w8 w12) := nx (HB9.out.drew) HB12.out
  have HR12 : Hid (MRow w12 mb s8 M) := MRow.below (w := w9.drew) hS9 HB12.out
  refine hK _ _ (fun _ => HR12.out) ?_
  clear hK hown12 hg12 hat12
  refine wpAnyP_one (i := 9) rfl (by kernel_rfl) fun K hK => ?_
  refine step_appE (w := w12) (elRRL B) (by kernel_rfl) (.tmp 44) (.tmp 46) rfl b10 v12 ([] ++ M.an ++ M.au) rfl HO12.out s8.X M.ex.length s8.xc M.ex (HEx.out w12 HB812.out) (HSS.out Sx HSl.out.2.2 w12 _ HB812.out (fun k hk => (OwnE.lt HO12.out k hk).1)) rfl (by have := HLa.out; simp; omega) (by have := HLa.out; unfold maxLen; simp; omega) (by rw [HBD.out]; exact HB12.out.size) ?_
  intro v13 w13 hown13 hg13 hat13
  have HB13 : Hid (Below w9.drew.heap.size w9.drew w13) := Below.grown HB12.out hg13 HB12.out.size (fun k hk => by have := (OwnE.lt HO12.out k hk).1; rw [HBD.out] at this; exact this)
  have HB813 : Hid (Below w8.heap.size w8 w13) := nx (HB9.out.drew) HB13.out
  have HR13 : Hid (MRow w13 mb s8 M) := MRow.below (w := w9.drew) hS9 HB13.out
  rw [List.nil_append] at hown13
  obtain ⟨all, hall⟩ : ∃ l, l = M.an ++ M.au ++ M.ex := ⟨_, rfl⟩
  rw [← hall] at hown13
  have HALL := Lib.hid hall
  clear hall
  obtain ⟨A13, c13, hv13, he13, hl13, hm13⟩ := OwnE.form hown13
  obtain ⟨n, hn⟩ : ∃ n, n = all.length := ⟨_, rfl⟩
  rw [← hn] at hv13 he13 hl13
  have HE13 := Lib.hid he13
  have HNE := Lib.hid hn
  have HL13 : Hid (n ≤ c13 ∧ c13 ≤ maxLen) := ⟨hl13, hm13⟩
  subst hv13
  refine hK _ _ (fun _ => HR13.out) ?_
  clear hK hown13 hg13 hat13 he13 hn hl13 hm13
  refine wpAnyP_one (i := 10) rfl (by kernel_rfl) fun K hK => ?_
  go_simp
  refine hK _ _ (fun h => absurd h (by rw [show needS _ _ _ = false from by kernel_rfl]; decide)) ?_
  clear hK
  refine wpAnyP_done (by kernel_rfl) ?_ _
  clear hS9
  have hnb : n ≤ 1000 := by
    have h1 := HLa.out
    have h2 := HNE.out
    rw [HALL.out, List.length_append, List.length_append] at h2
    omega
  -- what is read at the end, and what the loops write into
  have HB713 : Hid (Below w7.heap.size w7 w13) := nx HB8.out HB813.out
  have HBB : Hid (B ≤ w13.heap.size ∧ B = w7.heap.size) := ⟨by rw [HBE.out]; exact HB713.out.size, HBE.out⟩
  obtain ⟨g8, A8, c8, hq1, hq2, hq3, hq4, hq5, hq6, hq7, hq8, hq9⟩ := HO8.out.q
  have HQ13 : Hid (w13.cell? ⟨mb, 8, none⟩ = some (.slice (some ⟨g8, 0, none⟩) 1 1)) := by
    have h1 : w13.cell? ⟨mb, 8, none⟩ = some (.slice s8.Q M.qs.length s8.qc) := (MRow.cell HR13.out 8).trans rfl
    rw [hq1, hq2, hq3] at h1
    exact h1
  have HG13 : Hid (w13.cell? ⟨g8, 0, none⟩ = some (.slice A8 qn c8) ∧ qn ≤ c8) := by
    have h1 := (hq6.below HB813.out).1
    rw [show (⟨qs, ty, cl⟩ : Qu).name.length = qn from HLE.out.2] at h1 hq8
    exact ⟨h1, hq8⟩
  have HN13 : Hid (Els encS (lsS B w13) (lsS B w13) w13 A8 qn qs) := by
    have k : ∀ b, lsS B w8 b → w13.heap[b]? = w8.heap[b]? := fun b hb => HB813.out.block b hb.2.1
    have h1 : Els encS (lsS B w8) (lsS B w8) w8 A8 qs.length qs := hq7
    rw [HLE.out.2] at h1
    have k2 : ∀ b, lsS B w8 b → lsS B w13 b := fun b hb => ⟨hb.1, Nat.lt_of_lt_of_le hb.2.1 HB813.out.size, hb.2.2.keep (k b hb)⟩
    exact (h1.keep k k).mono k2 k2
  clear hq1 hq2 hq3 hq4 hq5 hq6 hq7 hq8 hq9
  have HI13 : Hid (w13.cell? ⟨ib, 0, none⟩ = some (.slice A5 zn c5) ∧ w13.cell? ⟨ib, 1, none⟩ = some (.slice R5 rs.length k5)) := ⟨below_cell (nx HB7.out HB713.out) HI6.out.1, below_cell (nx HB7.out HB713.out) HI6.out.2⟩
  have HZ13 := Lib.hid (HC.out w13 (nx HW7.out HB713.out))
  have HLOW : Hid (∀ wr, Sim B w13 wr → (∀ b, b < B → wr.heap[b]? = w7.heap[b]?) ∧ B ≤ wr.heap.size) := fun wr hs => ⟨fun b hb => (hs.low.block b hb).trans (HB713.out.block b (by rw [← HBE.out]; exact hb)), Nat.le_trans HBB.out.1 hs.low.size⟩
  go_upto_region 8 with (fail)
  go_loopw [9] (fun iv wr => ∃ i : Nat, iv = .int .i64 (i : Int) ∧ i ≤ n ∧ Hid (Sim B w13 wr)) (fun iv _ => n - (intOf iv).toNat)
  case atStart => exact ⟨0, rfl, Nat.zero_le _, Sim.refl HBB.out.1⟩
  case round =>
    obtain ⟨i, rfl, hi, HS1⟩ := hrel
    by_cases hin : i < n
    rotate_left
    · have hin' : ¬ (i : Int) < (n : Int) := by omega
      go_upto_region 23 with (fail)
      go_loopw [13] (fun iv wr => ∃ k : Nat, iv = .int .i64 (k : Int) ∧ k ≤ 1 ∧ Hid (Sim B w13 wr)) (fun iv _ => 1 - (intOf iv).toNat)
      case atStart => exact ⟨0, rfl, Nat.zero_le _, HS1⟩
      case round =>
        clear HS1
        obtain ⟨k, rfl, hk, HS2⟩ := hrel
        have d8 : wr.cell? ⟨mb, 8, none⟩ = some (.slice (some ⟨g8, 0, none⟩) 1 1) := HS2.out.slice HQ13.out
        by_cases hk0 : k = 0
        · subst hk0
          go_upto_region 26 with (fail)
          clear d8
          go_loopw [14] (fun jv wr => ∃ j : Nat, jv = .int .i64 (j : Int) ∧ j ≤ qn ∧ Hid (Sim B w13 wr)) (fun jv _ => qn - (intOf jv).toNat)
          case atStart => exact ⟨0, rfl, Nat.zero_le _, HS2⟩
          case round =>
            clear HS2
            obtain ⟨j, rfl, hj, HS2⟩ := hrel
            have d8 : wr.cell? ⟨mb, 8, none⟩ = some (.slice (some ⟨g8, 0, none⟩) 1 1) := HS2.out.slice HQ13.out
            have d0 : wr.cell? ⟨g8, 0, none⟩ = some (.slice A8 qn c8) := HS2.out.slice HG13.out.1
            have hqb : qn ≤ 130 := HQL.out
            by_cases hjn : j < qn
            · have hjn' : (j : Int) < (qn : Int) := by omega
              obtain ⟨y0, hx⟩ : ∃ x, qs[j]? = some x := ⟨_, List.getElem?_eq_getElem (by rw [HLE.out.2]; exact hjn)⟩
              obtain ⟨b1, o1, hA1, hb1, hc1⟩ := str_at HN13.out hx
              rw [hA1] at d0
              obtain ⟨y, hy⟩ := HS2.out.str hc1
              have fz : wr.frozen? ⟨b1, o1 + j, none⟩ = false := (HS2.out.free _).trans (hb1.2.2.free _)
              have HC1 := Lib.hid hc1
              have HY := Lib.hid hy
              have HB1 := Lib.hid hb1.1
              clear hx hA1 hb1 hc1
              go_wp2
              go_roundw
              case rel => exact ⟨j + 1, by go_num, by omega, HS2.out.put HB1.out (Nat.le_trans HBB.out.1 HS2.out.low.size) (.inr (.inl ⟨_, _, HC1.out, rfl⟩)) ⟨_, HY.out⟩⟩
              case measure => simp [intOf]; omega
            have hjn' : ¬ (j : Int) < (qn : Int) := by omega
            go_wp2
            go_roundw
            case rel => exact ⟨1, by go_num, by omega, HS2⟩
            case measure => simp [intOf]
        · obtain rfl : k = 1 := by omega
          clear hk0 hk
          have hlo := HLOW.out wr HS2.out
          obtain ⟨u0, u1, u2, u3, u4⟩ := HZ13.out
          have t0 : wr.cell? ⟨zb, 0, none⟩ = some (.slice zA zn zc) := HS2.out.slice u0
          have t1 : wr.cell? ⟨zb, 1, none⟩ = some (.slice RA rs.length rc) := HS2.out.slice u1
          have t2 : wr.cell? ⟨qb, 0, none⟩ = some (.slice qA qn qc) := HS2.out.slice u2
          have i0 : wr.cell? ⟨ib, 0, none⟩ = some (.slice A5 zn c5) := HS2.out.slice HI13.out.1
          have i1 : wr.cell? ⟨ib, 1, none⟩ = some (.slice R5 rs.length k5) := HS2.out.slice HI13.out.2
          clear u0 u1 u2 u3 u4
          have hw7 : w.heap.size ≤ B := by rw [HBE.out]; exact (nx HB2.out HW7.out).size
          have hw5 : w5.heap.size ≤ B := by rw [HBE.out]; exact HW57.out.size
          have kw : ∀ b, ltS w b → wr.heap[b]? = w7.heap[b]? := fun b hb => hlo.1 b (Nat.lt_of_lt_of_le hb hw7)
          have k5' : ∀ b, geS w4.heap.size w5 b → wr.heap[b]? = w7.heap[b]? := fun b hb => hlo.1 b (Nat.lt_of_lt_of_le hb.2 hw5)
          have HWZ := Lib.hid ((HZ.out w7 (nx HB2.out HW7.out)).keep kw kw)
          have HWR := Lib.hid ((HR.out w7 (nx HB2.out HW7.out)).keep kw kw)
          have HWQ := Lib.hid ((HQ.out w7 (nx HB2.out HW7.out)).keep kw kw)
          have HIZ := Lib.hid ((HOZ.out w7 HW57.out).1.keep k5' k5')
          have HIR := Lib.hid ((HOZ.out w7 HW57.out).2.keep k5' k5')
          have HAQ : Hid (Els encS (fun b => (Value.slice A7 qn c7).ownBlock = some b) noS wr A7 qn qs) := by
            obtain ⟨A', c', hv, he, _, _⟩ := OwnE.form HO7.out
            rw [HLE.out.2] at hv he
            injection hv with e1 e2 e3
            subst e1
            exact he.keep (fun b hb => hlo.1 b (by rw [HBE.out]; exact (OwnE.lt HO7.out b hb).2)) (fun b hb => hb.elim)
          have HSZ : Hid (w.heap.size ≤ wr.heap.size ∧ w5.heap.size ≤ wr.heap.size) := ⟨Nat.le_trans hw7 hlo.2, Nat.le_trans hw5 hlo.2⟩
          have HXZ := Lib.hid (rexact_any A5 zA zn c5 zn zc zs zs wr HIZ.out HWZ.out (by have := HCC.out.1; omega) (by have := HCC.out.1; omega))
          have HXR : Hid (∀ u, Below wr.heap.size wr u → Calls Try.prog 49 #[.slice R5 rs.length k5, .slice RA rs.length rc] u (RetP (fun v _ => v = .bool true) u)) := fun u hu => rsameRRs_eq R5 RA rs.length k5 rc rs u (HIR.out.below hu (fun b hb => Nat.lt_of_lt_of_le hb.2 HSZ.out.2) (fun b hb => Nat.lt_of_lt_of_le hb.2 HSZ.out.2)) (HWR.out.below hu (fun b hb => Nat.lt_of_lt_of_le hb HSZ.out.1) (fun b hb => Nat.lt_of_lt_of_le hb HSZ.out.1)) (fun b hb => Nat.lt_of_lt_of_le (Nat.lt_of_lt_of_le hb.2 HSZ.out.2) hu.size) (fun b hb => Nat.lt_of_lt_of_le (Nat.lt_of_lt_of_le hb HSZ.out.1) hu.size) (by have := HL.out.n; omega)
          have HOB : Hid (∀ b, (Value.slice A7 qn c7).ownBlock = some b → b < wr.heap.size) := fun b hb => Nat.lt_of_lt_of_le (by rw [HBE.out]; exact (OwnE.lt HO7.out b hb).2) hlo.2
          have HXQ : Hid (∀ u, Below wr.heap.size wr u → Calls Try.prog 28 #[.slice A7 qn c7, .slice qA qn qc] u (RetN (.bool (decide (qs = qs))) u)) := fun u hu => rexact_any A7 qA qn c7 qn qc qs qs u (HAQ.out.below hu HOB.out (fun b hb => hb.elim)) (HWQ.out.below hu (fun b hb => Nat.lt_of_lt_of_le hb HSZ.out.1) (fun b hb => Nat.lt_of_lt_of_le hb HSZ.out.1)) (by have := HQL.out; unfold maxLen; omega) (by have := HQL.out; unfold maxLen; omega)
          rw [decide_eq_true rfl] at HXZ
          rw [decide_eq_true rfl] at HXQ
          have HEND : Hid (Below w.heap.size w wr) := by
            have h1 : Below w.heap.size w w7 := nx HB2.out HW7.out
            refine h1.trans (?_ : Below w.heap.size w7 wr)
            refine (HB713.out.mono h1.size).trans (HS2.out.low.mono hw7)
          clear hlo hw7 hw5 kw k5'
          go_wp2_with (first
            | (go_at_call 28; refine (HXQ.out w15 (nx HB14.out HB15.out)).mono ?_; rintro e w16 ⟨rfl, m16, hv16⟩; have HB16 : Hid (Below w15.heap.size w15 w16) := (by show Below _ _ _; rw [hv16]; exact dN bl m16); clear hv16)
            | (go_at_call 49; refine (HXR.out w14 HB14.out).mono ?_; rintro e w15 ⟨v15, rfl, rfl, hb15⟩; have HB15 := Lib.hid hb15; clear hb15; have t2' := below_cell (nx HB14.out HB15.out) t2)
            | (go_at_call 28; refine HXZ.out.mono ?_; rintro e w14 ⟨rfl, m14, hv14⟩; have HB14 : Hid (Below wr.heap.size wr w14) := (by show Below _ _ _; rw [hv14]; exact dN bl m14); clear hv14; have i1' := below_cell HB14.out i1; have t1' := below_cell HB14.out t1)
            | fail)
          go_ret
          exact ⟨rfl, nx HEND.out (nx (nx HB14.out HB15.out) HB16.out)⟩
    have hin' : (i : Int) < (n : Int) := by omega
    obtain ⟨f, hf⟩ : ∃ f, all[i]? = some f := ⟨_, List.getElem?_eq_getElem (by rw [← HNE.out]; exact hin)⟩
    obtain ⟨bf, of, sf, hA, hbf, hfi, hfc⟩ := rrl_at HE13.out hf
    have HFI := Lib.hid hfi
    have HC0 : Hid (w13.cell? ⟨bf, of + i * 9, none⟩ = some (.slice sf.A f.name.length sf.c)) := hfc.1
    have HC4 : Hid (w13.cell? ⟨bf, of + i * 9 + 4, none⟩ = some (.slice sf.d.A0 f.data.bytes.length sf.d.c0)) := hfc.2.2.2.2.1
    have HC5 : Hid (w13.cell? ⟨bf, of + i * 9 + 5, none⟩ = some (.slice sf.d.A1 f.data.host.length sf.d.c1)) := hfc.2.2.2.2.2.1
    rw [hA]
    obtain ⟨nl, hnl⟩ : ∃ k, k = f.name.length := ⟨_, rfl⟩
    obtain ⟨nb, hnb2⟩ : ∃ k, k = f.data.bytes.length := ⟨_, rfl⟩
    obtain ⟨nh, hnh2⟩ : ∃ k, k = f.data.host.length := ⟨_, rfl⟩
    rw [← hnl] at HC0
    rw [← hnb2] at HC4
    rw [← hnh2] at HC5
    have HNL := Lib.hid hnl
    have HNB2 := Lib.hid hnb2
    have HNH2 := Lib.hid hnh2
    have hnlb : nl ≤ 9223372036854775807 := by rw [hnl]; exact Nat.le_trans hfi.cn.1 hfi.cn.2
    have hnbb : nb ≤ 9223372036854775807 := by rw [hnb2]; exact Nat.le_trans hfi.d.cb.1 hfi.d.cb.2
    have hnhb : nh ≤ 9223372036854775807 := by rw [hnh2]; exact Nat.le_trans hfi.d.ch.1 hfi.d.ch.2
    clear hf hA hbf hfi hfc hnl hnb2 hnh2
    go_upto_region 11 with (fail)
    go_loopw [10] (fun kv wr => ∃ k : Nat, kv = .int .i64 (k : Int) ∧ k ≤ nl ∧ Hid (Sim B w13 wr)) (fun kv _ => nl - (intOf kv).toNat)
    case atStart => exact ⟨0, rfl, Nat.zero_le _, HS1⟩
    case round =>
      clear HS1
      obtain ⟨k, rfl, hk, HS2⟩ := hrel
      have d0 : wr.cell? ⟨bf, of + i * 9, none⟩ = some (.slice sf.A nl sf.c) := HS2.out.slice HC0.out
      by_cases hkn : k < nl
      · have hkn' : (k : Int) < (nl : Int) := by omega
        obtain ⟨y0, hx⟩ : ∃ x, f.name[k]? = some x := ⟨_, List.getElem?_eq_getElem (by rw [← HNL.out]; exact hkn)⟩
        obtain ⟨b1, o1, hA1, hb1, hc1⟩ := str_at HFI.out.n hx
        rw [hA1] at d0
        obtain ⟨y, hy⟩ := HS2.out.str hc1
        have fz : wr.frozen? ⟨b1, o1 + k, none⟩ = false := (HS2.out.free _).trans (hb1.2.2.free _)
        have HC1 := Lib.hid hc1
        have HY := Lib.hid hy
        have HB1 := Lib.hid hb1.2.1
        clear hx hA1 hb1 hc1
        go_wp2
        go_roundw
        case rel => exact ⟨k + 1, by go_num, by omega, HS2.out.put HB1.out (Nat.le_trans HBB.out.1 HS2.out.low.size) (.inr (.inl ⟨_, _, HC1.out, rfl⟩)) ⟨_, HY.out⟩⟩
        case measure => simp [intOf]; omega
      have hkn' : ¬ (k : Int) < (nl : Int) := by omega
      go_upto_region 15 with (fail)
      clear d0 hkn hkn' hk
      go_loopw [11] (fun jv wr => ∃ j : Nat, jv = .int .i64 (j : Int) ∧ j ≤ nb ∧ Hid (Sim B w13 wr)) (fun jv _ => nb - (intOf jv).toNat)
      case atStart => exact ⟨0, rfl, Nat.zero_le _, HS2⟩
      case round =>
        clear HS2
        obtain ⟨j, rfl, hj, HS3⟩ := hrel
        have d0 : wr.cell? ⟨bf, of + i * 9 + 4, none⟩ = some (.slice sf.d.A0 nb sf.d.c0) := HS3.out.slice HC4.out
        by_cases hjn : j < nb
        · have hjn' : (j : Int) < (nb : Int) := by omega
          obtain ⟨y0, hx⟩ : ∃ x, f.data.bytes[j]? = some x := ⟨_, List.getElem?_eq_getElem (by rw [← HNB2.out]; exact hjn)⟩
          obtain ⟨b1, o1, hA1, hb1, hc1⟩ := byte_at HFI.out.d.b hx
          rw [hA1] at d0
          obtain ⟨y, hy⟩ := HS3.out.u8 hc1
          have fz : wr.frozen? ⟨b1, o1 + j, none⟩ = false := (HS3.out.free _).trans (hb1.2.2.free _)
          have HC1 := Lib.hid hc1
          have HY := Lib.hid hy
          have HB1 := Lib.hid hb1.2.1
          clear hx hA1 hb1 hc1
          go_wp2
          go_roundw
          case rel => exact ⟨j + 1, by go_num, by omega, HS3.out.put HB1.out (Nat.le_trans HBB.out.1 HS3.out.low.size) (.inr (.inr ⟨_, _, HC1.out, rfl⟩)) ⟨_, HY.out⟩⟩
          case measure => simp [intOf]; omega
        have hjn' : ¬ (j : Int) < (nb : Int) := by omega
        go_upto_region 19 with (fail)
        clear d0 hjn hjn' hj
        go_loopw [12] (fun hv wr => ∃ h : Nat, hv = .int .i64 (h : Int) ∧ h ≤ nh ∧ Hid (Sim B w13 wr)) (fun hv _ => nh - (intOf hv).toNat)
        case atStart => exact ⟨0, rfl, Nat.zero_le _, HS3⟩
        case round =>
          clear HS3
          obtain ⟨h, rfl, hh, HS4⟩ := hrel
          have d0 : wr.cell? ⟨bf, of + i * 9 + 5, none⟩ = some (.slice sf.d.A1 nh sf.d.c1) := HS4.out.slice HC5.out
          by_cases hhn : h < nh
          · have hhn' : (h : Int) < (nh : Int) := by omega
            obtain ⟨y0, hx⟩ : ∃ x, f.data.host[h]? = some x := ⟨_, List.getElem?_eq_getElem (by rw [← HNH2.out]; exact hhn)⟩
            obtain ⟨b1, o1, hA1, hb1, hc1⟩ := str_at HFI.out.d.h hx
            rw [hA1] at d0
            obtain ⟨y, hy⟩ := HS4.out.str hc1
            have fz : wr.frozen? ⟨b1, o1 + h, none⟩ = false := (HS4.out.free _).trans (hb1.2.2.free _)
            have HC1 := Lib.hid hc1
            have HY := Lib.hid hy
            have HB1 := Lib.hid hb1.2.1
            clear hx hA1 hb1 hc1
            go_wp2
            go_roundw
            case rel => exact ⟨h + 1, by go_num, by omega, HS4.out.put HB1.out (Nat.le_trans HBB.out.1 HS4.out.low.size) (.inr (.inl ⟨_, _, HC1.out, rfl⟩)) ⟨_, HY.out⟩⟩
            case measure => simp [intOf]; omega
          have hhn' : ¬ (h : Int) < (nh : Int) := by omega
          go_wp2
          go_roundw
          case rel => exact ⟨i + 1, by go_num, by omega, HS4⟩
          case measure => simp [intOf]; omega
theorem zoneKeeps_walk (zA RA qA : Option Addr) (zn zc rn rc qn qc : Nat) (zs qs : List (List UInt8)) (rs : List RR) (ty cl : Int) (w : World) (h : RdE encRR w RA rn rs) (hz : RdE encS w zA zn zs) (hq : RdE encS w qA qn qs) (hzc : zn ≤ zc ∧ zc ≤ maxLen) (hrc : rn ≤ rc ∧ rc ≤ maxLen) (hqc : qn ≤ qc ∧ qc ≤ maxLen) :
    Calls Try.prog 13 #[.agg #[.slice zA zn zc, .slice RA rn rc], .agg #[.slice qA qn qc, .int .i64 ty, .int .i64 cl]] w (LawT w) := by
  by_cases hL : LtZ zs rs
  · by_cases hl : qn ≤ 130
    · exact zZoneKeeps_main zA RA qA zn zc rn rc qn qc zs qs rs ty cl w h hz hq hzc hrc hqc hL hl
    · exact zZoneKeeps_name zA RA qA zn zc rn rc qn qc zs qs rs ty cl w h hz hq hzc hrc hqc (ltZ_yes hL) hl
  · exact zZoneKeeps_heavy zA RA qA zn zc rn rc qn qc zs qs rs ty cl w h hz hq hzc hrc hqc (ltZ_no hL)
end Go.Proofs.Ytimkdpkhdbiniaa
