/- Parts of a proof, joined: Law17A. -/
import Derived.Test.YtimkdpkhdbiniaaZADZ18
import Derived.Test.YtimkdpkhdbiniaaZADZ17
import Derived.Test.YtimkdpkhdbiniaaZADZ13
import Derived.Test.YtimkdpkhdbiniaaZADM02c
import Derived.Test.YtimkdpkhdbiniaaZADM04
/- ZoneAsked: the law's walk (printed by gen/law17a.py). -/
namespace Go.Proofs.Ytimkdpkhdbiniaa
open Go.RowKit
set_option maxRecDepth 100000
set_option linter.unusedVariables false

def nobL : List UInt8 := [110, 111, 98, 111, 100, 121, 45, 105, 115, 45, 99, 97, 108, 108, 101, 100, 45, 115, 111]
/-- What each operation of the region leaves. -/
def PsiA (zA RA : Option Addr) (zn zc rc : Nat) (zs : List (List UInt8)) (rs : List RR) (rb : Nat) (t : RS) (r : RR) (M : Ms) : Nat → Value → Nat → Nat → World → Prop
  | 0, v, _, _, _ => v = .agg #[.slice zA zn zc, .slice RA rs.length rc]
  | 1, v, lo, hi, u => ∃ A c R k, v = .agg #[.slice A zn c, .slice R rs.length k] ∧ ZIv lo hi u A zn c R rs.length k zs rs
  | 2, v, lo, hi, u => v = .slice (some ⟨lo, 0, none⟩) 0 0 ∧ u.heap[lo]? = some (.cells #[] 9 (0, 0)) ∧ lo < hi
  | 3, v, _, _, _ => v = .pointer (some ⟨rb, 0, none⟩)
  | 4, v, _, _, _ => v = .slice t.A r.name.length t.c
  | 5, v, lo, hi, u => ∃ A c, v = .slice A r.name.length c ∧ RdE encS u A r.name.length r.name ∧ r.name.length ≤ c ∧ c ≤ maxLen
  | 6, v, _, _, _ => v = .pointer (some ⟨rb, 1, none⟩)
  | 7, v, _, _, _ => v = .int .i64 r.type
  | 8, v, lo, hi, u => ∃ A c, v = .agg #[.slice A r.name.length c, .int .i64 r.type, .int .i64 1] ∧ RdE encS u A r.name.length r.name ∧ r.name.length ≤ c ∧ c ≤ maxLen
  | 9, v, lo, hi, u => ∃ s, v = msV s M ∧ AIv lo hi u s M ⟨r.name, r.type, 1⟩
  | 10, v, lo, hi, u => v = .pointer (some ⟨lo, 0, none⟩) ∧ lo < hi ∧ MRow u lo MS.nil msNone
  | _, _, _, _, _ => True
theorem psiA_below {zA RA : Option Addr} {zn zc rc : Nat} {zs : List (List UInt8)} {rs : List RR} {rb : Nat} {t : RS} {r : RR} {M : Ms} (j : Nat) (v : Value) (lo hi : Nat) (w w' : World) (hh : hi ≤ w.heap.size) (hb : Below w.heap.size w w') (h : PsiA zA RA zn zc rc zs rs rb t r M j v lo hi w) : PsiA zA RA zn zc rc zs rs rb t r M j v lo hi w' := by
  have k : ∀ b, btS lo hi b → w'.heap[b]? = w.heap[b]? := fun b hb' => hb.block b (Nat.lt_of_lt_of_le hb'.2 hh)
  match j, h with
  | 0, h => exact h
  | 1, h => obtain ⟨A, c, R, m, e, h⟩ := h; exact ⟨A, c, R, m, e, h.keep k⟩
  | 2, h => exact ⟨h.1, (hb.block lo (by have := h.2.2; omega)).trans h.2.1, h.2.2⟩
  | 3, h => exact h
  | 4, h => exact h
  | 5, h => obtain ⟨A, c, e, h, h2⟩ := h; exact ⟨A, c, e, h.below hb, h2⟩
  | 6, h => exact h
  | 7, h => exact h
  | 8, h => obtain ⟨A, c, e, h, h2⟩ := h; exact ⟨A, c, e, h.below hb, h2⟩
  | 9, h => obtain ⟨s, e, h⟩ := h; exact ⟨s, e, h.keep k⟩
  | 10, h => exact ⟨h.1, h.2.1, h.2.2.below hb⟩
  | _ + 11, _ => trivial
set_option maxHeartbeats 4000000 in
theorem zZoneAsked_heavy (zA RA : Option Addr) (zn zc rn rc : Nat) (zs : List (List UInt8)) (rs : List RR) (x1 : Nat) (w : World) (h : RdE encRR w RA rn rs) (hz : RdE encS w zA zn zs) (hzc : zn ≤ zc ∧ zc ≤ maxLen) (hrc : rn ≤ rc ∧ rc ≤ maxLen) (hx : x1 < 256) (hL : ltZ zs rs = false) :
    Calls Try.prog 11 #[.agg #[.slice zA zn zc, .slice RA rn rc], .int .u8 (x1 : Int)] w (LawT w) := by
  have er := h.len
  subst er
  have ez := hz.len
  obtain ⟨w1, hw1⟩ : ∃ w1, w1 = w.alloc (.cells #[.slice zA zn zc, .slice RA rs.length rc] 75) := ⟨_, rfl⟩
  obtain ⟨zb, hzb⟩ : ∃ g, g = w.heap.size := ⟨_, rfl⟩
  have hb1 : Below w.heap.size w w1 := by rw [hw1]; exact bl.alloc (Nat.le_refl _) _
  have z0 : w1.cell? ⟨zb, 0, none⟩ = some (.slice zA zn zc) := by rw [hw1, hzb]; exact new_cell w _ _ 0
  have z1 : w1.cell? ⟨zb, 1, none⟩ = some (.slice RA rs.length rc) := by rw [hw1, hzb]; exact new_cell w _ _ 1
  have HZC : Hid (w1.cell? ⟨zb, 0, none⟩ = some (.slice zA zn zc) ∧ w1.cell? ⟨zb, 1, none⟩ = some (.slice RA rs.length rc)) := ⟨z0, z1⟩
  have HB1 := Lib.hid hb1
  have HS : Hid (zb = w.heap.size) := hzb
  have HR : Hid (∀ u, Below w.heap.size w u → RdE encRR u RA rs.length rs) := fun u hu => h.below hu
  have HZ : Hid (∀ u, Below w.heap.size w u → RdE encS u zA zn zs) := fun u hu => hz.below hu
  have HLI : Hid (∀ u, Below w.heap.size w u → Calls Try.prog 39 #[.agg #[.slice zA zn zc, .slice RA rs.length rc]] u (RetP (fun v _ => v = .bool (ltZ zs rs)) u)) := fun u hu => lightZ_any zA RA zn zc rs.length rc zs rs u (HR.out u hu) (fun b hb => hb) ez hrc (Nat.le_trans hzc.1 hzc.2)
  have HLE : Hid (zs.length = zn) := ez
  have HCC : Hid ((zn ≤ zc ∧ zc ≤ maxLen) ∧ (rs.length ≤ rc ∧ rc ≤ maxLen)) := ⟨hzc, hrc⟩
  rw [hL] at HLI
  clear h hL hx hz hzc hrc ez hb1 z0 z1
  go_enter Try.func11, Try.ntmps11
  go_upto_region 1 with (fail)
  rw [← hw1]
  clear hw1
  rw [← hzb]
  clear hzb
  obtain ⟨z0, z1⟩ := HZC.out
  go_upto_region 2 with (go_at_call 41; (with_reducible refine (plainZ_any zA RA zn zc rs.length rc w1).mono ?_); rintro e w2 ⟨v2, rfl, rfl, hb2⟩; have HB2 := Lib.hid hb2; clear hb2)
  clear z0 z1
  obtain ⟨w3, hw3⟩ : ∃ u, u = w2.alloc (.cells #[.slice zA zn zc, .slice RA rs.length rc] 78) := ⟨_, rfl⟩
  obtain ⟨pb, hpb⟩ : ∃ g, g = w2.heap.size := ⟨_, rfl⟩
  have HB3' : Hid (Below w2.heap.size w2 w3) := by show Below _ _ _; rw [hw3]; exact bl.alloc (Nat.le_refl _) _
  have HPC : Hid (w3.cell? ⟨pb, 0, none⟩ = some (.slice zA zn zc) ∧ w3.cell? ⟨pb, 1, none⟩ = some (.slice RA rs.length rc)) := by
    constructor
    · rw [hw3, hpb]; exact new_cell w2 _ _ 0
    · rw [hw3, hpb]; exact new_cell w2 _ _ 1
  have HW3 : Hid (Below w.heap.size w w3) := nx (nx HB1.out HB2.out) HB3'.out
  have HC : Hid (∀ u, Below w3.heap.size w3 u → u.cell? ⟨zb, 0, none⟩ = some (.slice zA zn zc) ∧ u.cell? ⟨zb, 1, none⟩ = some (.slice RA rs.length rc) ∧ u.cell? ⟨pb, 0, none⟩ = some (.slice zA zn zc) ∧ u.cell? ⟨pb, 1, none⟩ = some (.slice RA rs.length rc)) := fun u hu => ⟨below_cell (nx (nx HB2.out HB3'.out) hu) HZC.out.1, below_cell (nx (nx HB2.out HB3'.out) hu) HZC.out.2, below_cell hu HPC.out.1, below_cell hu HPC.out.2⟩
  rw [← hw3]
  clear hw3
  rw [← hpb]
  clear hpb
  obtain ⟨x0, x1', x2, x3⟩ := HC.out w3 bl
  go_wp2_with (first | (go_at_call 38; (with_reducible refine (answers17_any w5).mono ?_); rintro e w6 ⟨rfl, hb6⟩; have HB6 := Lib.hid hb6; clear hb6) | (go_at_call 39; (with_reducible refine (HLI.out w4 (nx HW3.out HB4.out)).mono ?_); rintro e w5 ⟨v5, rfl, rfl, hb5⟩; have HB5 := Lib.hid hb5; obtain ⟨y0, y1, y2, y3⟩ := HC.out w5 (nx HB4.out hb5); clear hb5) | (go_at_call 38; (with_reducible refine (answers17_any w3).mono ?_); rintro e w4 ⟨rfl, hb4⟩; have HB4 := Lib.hid hb4; obtain ⟨a0, a1, a2, a3⟩ := HC.out w4 hb4; clear hb4) | fail)
  go_ret
  exact ⟨rfl, nx HW3.out (nx (nx HB4.out HB5.out) HB6.out)⟩
set_option maxHeartbeats 4000000 in
theorem zZoneAsked_unsound (zA RA : Option Addr) (zn zc rn rc : Nat) (zs : List (List UInt8)) (rs : List RR) (x1 : Nat) (w : World) (h : RdE encRR w RA rn rs) (hz : RdE encS w zA zn zs) (hzc : zn ≤ zc ∧ zc ≤ maxLen) (hrc : rn ≤ rc ∧ rc ≤ maxLen) (hx : x1 < 256) (hL : LtZ zs rs) (hso : zsoundB zs rs = false) :
    Calls Try.prog 11 #[.agg #[.slice zA zn zc, .slice RA rn rc], .int .u8 (x1 : Int)] w (LawT w) := by
  have er := h.len
  subst er
  have ez := hz.len
  obtain ⟨w1, hw1⟩ : ∃ w1, w1 = w.alloc (.cells #[.slice zA zn zc, .slice RA rs.length rc] 75) := ⟨_, rfl⟩
  obtain ⟨zb, hzb⟩ : ∃ g, g = w.heap.size := ⟨_, rfl⟩
  have hb1 : Below w.heap.size w w1 := by rw [hw1]; exact bl.alloc (Nat.le_refl _) _
  have z0 : w1.cell? ⟨zb, 0, none⟩ = some (.slice zA zn zc) := by rw [hw1, hzb]; exact new_cell w _ _ 0
  have z1 : w1.cell? ⟨zb, 1, none⟩ = some (.slice RA rs.length rc) := by rw [hw1, hzb]; exact new_cell w _ _ 1
  have HZC : Hid (w1.cell? ⟨zb, 0, none⟩ = some (.slice zA zn zc) ∧ w1.cell? ⟨zb, 1, none⟩ = some (.slice RA rs.length rc)) := ⟨z0, z1⟩
  have HB1 := Lib.hid hb1
  have HS : Hid (zb = w.heap.size) := hzb
  have HR : Hid (∀ u, Below w.heap.size w u → RdE encRR u RA rs.length rs) := fun u hu => h.below hu
  have HZ : Hid (∀ u, Below w.heap.size w u → RdE encS u zA zn zs) := fun u hu => hz.below hu
  have HLI : Hid (∀ u, Below w.heap.size w u → Calls Try.prog 39 #[.agg #[.slice zA zn zc, .slice RA rs.length rc]] u (RetP (fun v _ => v = .bool (ltZ zs rs)) u)) := fun u hu => lightZ_any zA RA zn zc rs.length rc zs rs u (HR.out u hu) (fun b hb => hb) ez hrc (Nat.le_trans hzc.1 hzc.2)
  have HLE : Hid (zs.length = zn) := ez
  have HCC : Hid ((zn ≤ zc ∧ zc ≤ maxLen) ∧ (rs.length ≤ rc ∧ rc ≤ maxLen)) := ⟨hzc, hrc⟩
  have HSO : Hid (∀ u, Below w.heap.size w u → Calls Try.prog 40 #[.agg #[.slice zA zn zc, .slice RA rs.length rc]] u (RetP (fun v _ => v = .bool (zsoundB zs rs)) u)) := fun u hu => rzsound_any zA RA zn zc rs.length rc zs rs u (HZ.out u hu) (HR.out u hu) (fun b hb => hb) (by have := hL.z; omega) hrc.1 (by have := hL.n; omega) (fun r hr => (hL.r r hr).lt9)
  rw [ltZ_yes hL] at HLI
  rw [hso] at HSO
  clear h hL hx hso hz hzc hrc ez hb1 z0 z1
  go_enter Try.func11, Try.ntmps11
  go_upto_region 1 with (fail)
  rw [← hw1]
  clear hw1
  rw [← hzb]
  clear hzb
  obtain ⟨z0, z1⟩ := HZC.out
  go_upto_region 2 with (go_at_call 41; (with_reducible refine (plainZ_any zA RA zn zc rs.length rc w1).mono ?_); rintro e w2 ⟨v2, rfl, rfl, hb2⟩; have HB2 := Lib.hid hb2; clear hb2)
  clear z0 z1
  obtain ⟨w3, hw3⟩ : ∃ u, u = w2.alloc (.cells #[.slice zA zn zc, .slice RA rs.length rc] 78) := ⟨_, rfl⟩
  obtain ⟨pb, hpb⟩ : ∃ g, g = w2.heap.size := ⟨_, rfl⟩
  have HB3' : Hid (Below w2.heap.size w2 w3) := by show Below _ _ _; rw [hw3]; exact bl.alloc (Nat.le_refl _) _
  have HPC : Hid (w3.cell? ⟨pb, 0, none⟩ = some (.slice zA zn zc) ∧ w3.cell? ⟨pb, 1, none⟩ = some (.slice RA rs.length rc)) := by
    constructor
    · rw [hw3, hpb]; exact new_cell w2 _ _ 0
    · rw [hw3, hpb]; exact new_cell w2 _ _ 1
  have HW3 : Hid (Below w.heap.size w w3) := nx (nx HB1.out HB2.out) HB3'.out
  have HC : Hid (∀ u, Below w3.heap.size w3 u → u.cell? ⟨zb, 0, none⟩ = some (.slice zA zn zc) ∧ u.cell? ⟨zb, 1, none⟩ = some (.slice RA rs.length rc) ∧ u.cell? ⟨pb, 0, none⟩ = some (.slice zA zn zc) ∧ u.cell? ⟨pb, 1, none⟩ = some (.slice RA rs.length rc)) := fun u hu => ⟨below_cell (nx (nx HB2.out HB3'.out) hu) HZC.out.1, below_cell (nx (nx HB2.out HB3'.out) hu) HZC.out.2, below_cell hu HPC.out.1, below_cell hu HPC.out.2⟩
  rw [← hw3]
  clear hw3
  rw [← hpb]
  clear hpb
  obtain ⟨x0, x1', x2, x3⟩ := HC.out w3 bl
  go_wp2_with (first | (go_at_call 38; (with_reducible refine (answers17_any w6).mono ?_); rintro e w7 ⟨rfl, hb7⟩; have HB7 := Lib.hid hb7; clear hb7) | (go_at_call 40; (with_reducible refine (HSO.out w5 (nx HW3.out (nx HB4.out HB5.out))).mono ?_); rintro e w6 ⟨v6, rfl, rfl, hb6⟩; have HB6 := Lib.hid hb6; clear hb6) | (go_at_call 39; (with_reducible refine (HLI.out w4 (nx HW3.out HB4.out)).mono ?_); rintro e w5 ⟨v5, rfl, rfl, hb5⟩; have HB5 := Lib.hid hb5; obtain ⟨y0, y1, y2, y3⟩ := HC.out w5 (nx HB4.out hb5); clear hb5) | (go_at_call 38; (with_reducible refine (answers17_any w3).mono ?_); rintro e w4 ⟨rfl, hb4⟩; have HB4 := Lib.hid hb4; obtain ⟨a0, a1, a2, a3⟩ := HC.out w4 hb4; clear hb4) | fail)
  go_ret
  exact ⟨rfl, nx HW3.out (nx (nx (nx HB4.out HB5.out) HB6.out) HB7.out)⟩
set_option maxHeartbeats 16000000 in
theorem zZoneAsked_main (zA RA : Option Addr) (zn zc rn rc : Nat) (zs : List (List UInt8)) (rs : List RR) (x1 : Nat) (w : World) (h : RdE encRR w RA rn rs) (hz : RdE encS w zA zn zs) (hzc : zn ≤ zc ∧ zc ≤ maxLen) (hrc : rn ≤ rc ∧ rc ≤ maxLen) (hx : x1 < 256) (hL : LtZ zs rs) (hso : zsoundB zs rs = true) :
    Calls Try.prog 11 #[.agg #[.slice zA zn zc, .slice RA rn rc], .int .u8 (x1 : Int)] w (LawT w) := by
  have er := h.len
  subst er
  have ez := hz.len
  obtain ⟨w1, hw1⟩ : ∃ w1, w1 = w.alloc (.cells #[.slice zA zn zc, .slice RA rs.length rc] 75) := ⟨_, rfl⟩
  obtain ⟨zb, hzb⟩ : ∃ g, g = w.heap.size := ⟨_, rfl⟩
  have hb1 : Below w.heap.size w w1 := by rw [hw1]; exact bl.alloc (Nat.le_refl _) _
  have z0 : w1.cell? ⟨zb, 0, none⟩ = some (.slice zA zn zc) := by rw [hw1, hzb]; exact new_cell w _ _ 0
  have z1 : w1.cell? ⟨zb, 1, none⟩ = some (.slice RA rs.length rc) := by rw [hw1, hzb]; exact new_cell w _ _ 1
  have HZC : Hid (w1.cell? ⟨zb, 0, none⟩ = some (.slice zA zn zc) ∧ w1.cell? ⟨zb, 1, none⟩ = some (.slice RA rs.length rc)) := ⟨z0, z1⟩
  have HB1 := Lib.hid hb1
  have HS : Hid (zb = w.heap.size) := hzb
  have HR : Hid (∀ u, Below w.heap.size w u → RdE encRR u RA rs.length rs) := fun u hu => h.below hu
  have HZ : Hid (∀ u, Below w.heap.size w u → RdE encS u zA zn zs) := fun u hu => hz.below hu
  have HLI : Hid (∀ u, Below w.heap.size w u → Calls Try.prog 39 #[.agg #[.slice zA zn zc, .slice RA rs.length rc]] u (RetP (fun v _ => v = .bool (ltZ zs rs)) u)) := fun u hu => lightZ_any zA RA zn zc rs.length rc zs rs u (HR.out u hu) (fun b hb => hb) ez hrc (Nat.le_trans hzc.1 hzc.2)
  have HLE : Hid (zs.length = zn) := ez
  have HCC : Hid ((zn ≤ zc ∧ zc ≤ maxLen) ∧ (rs.length ≤ rc ∧ rc ≤ maxLen)) := ⟨hzc, hrc⟩
  have HSO : Hid (∀ u, Below w.heap.size w u → Calls Try.prog 40 #[.agg #[.slice zA zn zc, .slice RA rs.length rc]] u (RetP (fun v _ => v = .bool (zsoundB zs rs)) u)) := fun u hu => rzsound_any zA RA zn zc rs.length rc zs rs u (HZ.out u hu) (HR.out u hu) (fun b hb => hb) (by have := hL.z; omega) hrc.1 (by have := hL.n; omega) (fun r hr => (hL.r r hr).lt9)
  rw [ltZ_yes hL] at HLI
  rw [hso] at HSO
  have HL := Lib.hid hL
  have HZS := Lib.hid hso
  have hp := zsound_parts hso
  obtain ⟨k, hk⟩ : ∃ k, k = x1 % rs.length := ⟨_, rfl⟩
  have hkl : k < rs.length := by rw [hk]; exact Nat.mod_lt _ (by have := hp.2.1; omega)
  have hn0 : ¬ rs.length = 0 := by have := hp.2.1; omega
  have hm1 : (x1 : Int) % (rs.length : Int) = (k : Int) := by rw [hk]; omega
  have hm2 : (x1 : Int).tmod (rs.length : Int) = (k : Int) := by rw [hk]; rfl
  have hrn : rs.length ≤ 100 := hL.n
  have HKL := Lib.hid hkl
  have HMOD : Hid (¬ rs.length = 0 ∧ (x1 : Int) % (rs.length : Int) = (k : Int) ∧ (x1 : Int).tmod (rs.length : Int) = (k : Int)) := ⟨hn0, hm1, hm2⟩
  have HX1 := Lib.hid hx
  clear h hL hso hp hk hkl hn0 hm1 hm2 hx hz hzc hrc ez hb1 z0 z1
  go_enter Try.func11, Try.ntmps11
  go_upto_region 1 with (fail)
  rw [← hw1]
  clear hw1
  rw [← hzb]
  clear hzb
  obtain ⟨z0, z1⟩ := HZC.out
  go_upto_region 2 with (go_at_call 41; (with_reducible refine (plainZ_any zA RA zn zc rs.length rc w1).mono ?_); rintro e w2 ⟨v2, rfl, rfl, hb2⟩; have HB2 := Lib.hid hb2; clear hb2)
  clear z0 z1
  obtain ⟨w3, hw3⟩ : ∃ u, u = w2.alloc (.cells #[.slice zA zn zc, .slice RA rs.length rc] 78) := ⟨_, rfl⟩
  obtain ⟨pb, hpb⟩ : ∃ g, g = w2.heap.size := ⟨_, rfl⟩
  have HB3' : Hid (Below w2.heap.size w2 w3) := by show Below _ _ _; rw [hw3]; exact bl.alloc (Nat.le_refl _) _
  have HPC : Hid (w3.cell? ⟨pb, 0, none⟩ = some (.slice zA zn zc) ∧ w3.cell? ⟨pb, 1, none⟩ = some (.slice RA rs.length rc)) := by
    constructor
    · rw [hw3, hpb]; exact new_cell w2 _ _ 0
    · rw [hw3, hpb]; exact new_cell w2 _ _ 1
  have HW3 : Hid (Below w.heap.size w w3) := nx (nx HB1.out HB2.out) HB3'.out
  have HC : Hid (∀ u, Below w3.heap.size w3 u → u.cell? ⟨zb, 0, none⟩ = some (.slice zA zn zc) ∧ u.cell? ⟨zb, 1, none⟩ = some (.slice RA rs.length rc) ∧ u.cell? ⟨pb, 0, none⟩ = some (.slice zA zn zc) ∧ u.cell? ⟨pb, 1, none⟩ = some (.slice RA rs.length rc)) := fun u hu => ⟨below_cell (nx (nx HB2.out HB3'.out) hu) HZC.out.1, below_cell (nx (nx HB2.out HB3'.out) hu) HZC.out.2, below_cell hu HPC.out.1, below_cell hu HPC.out.2⟩
  rw [← hw3]
  clear hw3
  rw [← hpb]
  clear hpb
  obtain ⟨x0, x1', x2, x3⟩ := HC.out w3 bl
  go_upto_region 4 with (first | (go_at_call 40; (with_reducible refine (HSO.out w5 (nx HW3.out (nx HB4.out HB5.out))).mono ?_); rintro e w6 ⟨v6, rfl, rfl, hb6⟩; have HB6 := Lib.hid hb6; clear hb6) | (go_at_call 39; (with_reducible refine (HLI.out w4 (nx HW3.out HB4.out)).mono ?_); rintro e w5 ⟨v5, rfl, rfl, hb5⟩; have HB5 := Lib.hid hb5; obtain ⟨y0, y1, y2, y3⟩ := HC.out w5 (nx HB4.out hb5); clear hb5) | (go_at_call 38; (with_reducible refine (answers17_any w3).mono ?_); rintro e w4 ⟨rfl, hb4⟩; have HB4 := Lib.hid hb4; obtain ⟨a0, a1, a2, a3⟩ := HC.out w4 hb4; clear hb4) | fail)
  clear x0 x1' x2 x3 a0 a1 a2 a3 y0 y1 y2 y3
  have HB36 : Hid (Below w3.heap.size w3 w6) := nx (nx HB4.out HB5.out) HB6.out
  obtain ⟨r, hr⟩ : ∃ r, rs[k]? = some r := ⟨_, List.getElem?_eq_getElem HKL.out⟩
  have HRM := Lib.hid (List.mem_of_getElem? hr)
  obtain ⟨b, off, t, hA, hbS, hri, hrc2⟩ := rr_at (HR.out w6 (nx HW3.out HB36.out)) hr
  have HAA := Lib.hid hA
  have HRI : Hid (∀ u, Below w6.heap.size w6 u → RIn (ltS w6) u t r) := fun u hu => hri.below hu (fun b hb => hb)
  have hS : (w6.drew.cell? ⟨zb, 1, none⟩ = some (.slice (some ⟨b, off, none⟩) rs.length rc)) ∧ RCells w6.drew b (off + k * 9) t r := by
    have h0 := (HC.out w6 HB36.out).2.1
    rw [hA] at h0
    exact ⟨h0, hrc2⟩
  have hkl : (k : Int) < (rs.length : Int) := by have := HKL.out; omega
  have hkr : (k : Int) ≤ 100 := by omega
  clear hr hA hri hrc2 hbS
  have hmod := HMOD.out
  obtain ⟨hn0, hm1, hm2⟩ := hmod
  have hx := HX1.out
  have hwk : IntKind.i64.wrap (k : Int) = (k : Int) := by rw [IntKind.wrap_i64]; omega
  have hwx : IntKind.i64.wrap (x1 : Int) = (x1 : Int) := by rw [IntKind.wrap_i64]; omega
  refine wp_region_any (by kernel_rfl) ?_
  change wpAny _ _ _ _ _ _ _ (World.drew w6)
  refine wpAny_of_P (S := fun W => (W.cell? ⟨zb, 1, none⟩ = some (.slice (some ⟨b, off, none⟩) rs.length rc)) ∧ RCells W b (off + k * 9) t r) (dem := fun _ => true) _ _ _ _ ?_
  refine wpAnyP_take (i := 0) (v := .pointer (some ⟨zb, 1, none⟩)) rfl (by kernel_rfl) (by kernel_rfl) (by kernel_rfl) (by kernel_rfl) (by kernel_rfl) (fun _ _ _ h => h) (Or.inl ⟨by kernel_rfl, by (intro W hW; go_simp)⟩) hS ?_
  refine wpAnyP_take (i := 1) (v := .slice (some ⟨b, off, none⟩) rs.length rc) rfl (by kernel_rfl) (by kernel_rfl) (by kernel_rfl) (by kernel_rfl) (by kernel_rfl) (fun _ _ _ h => h) (Or.inl ⟨by kernel_rfl, by (intro W hW; have c0 := hW.1; go_simp)⟩) hS ?_
  refine wpAnyP_take (i := 2) (v := .int .u8 (x1 : Int)) rfl (by kernel_rfl) (by kernel_rfl) (by kernel_rfl) (by kernel_rfl) (by kernel_rfl) (fun _ _ _ h => h) (Or.inl ⟨by kernel_rfl, by (intro W hW; go_simp)⟩) hS ?_
  refine wpAnyP_take (i := 3) (v := .int .i64 (x1 : Int)) rfl (by kernel_rfl) (by kernel_rfl) (by kernel_rfl) (by kernel_rfl) (by kernel_rfl) (fun _ _ _ h => h) (Or.inl ⟨by kernel_rfl, by (intro W hW; go_simp)⟩) hS ?_
  refine wpAnyP_take (i := 4) (v := .pointer (some ⟨zb, 1, none⟩)) rfl (by kernel_rfl) (by kernel_rfl) (by kernel_rfl) (by kernel_rfl) (by kernel_rfl) (fun _ _ _ h => h) (Or.inl ⟨by kernel_rfl, by (intro W hW; go_simp)⟩) hS ?_
  refine wpAnyP_take (i := 5) (v := .slice (some ⟨b, off, none⟩) rs.length rc) rfl (by kernel_rfl) (by kernel_rfl) (by kernel_rfl) (by kernel_rfl) (by kernel_rfl) (fun _ _ _ h => h) (Or.inl ⟨by kernel_rfl, by (intro W hW; have c0 := hW.1; go_simp)⟩) hS ?_
  refine wpAnyP_take (i := 6) (v := .int .i64 (rs.length : Int)) rfl (by kernel_rfl) (by kernel_rfl) (by kernel_rfl) (by kernel_rfl) (by kernel_rfl) (fun _ _ _ h => h) (Or.inl ⟨by kernel_rfl, by (intro W hW; go_simp)⟩) hS ?_
  refine wpAnyP_take (i := 7) (v := .int .i64 (k : Int)) rfl (by kernel_rfl) (by kernel_rfl) (by kernel_rfl) (by kernel_rfl) (by kernel_rfl) (fun _ _ _ h => h) (Or.inl ⟨by kernel_rfl, by (intro W hW; go_simp)⟩) hS ?_
  refine wpAnyP_take (i := 8) (v := .pointer (some ⟨b, off + k * 9, none⟩)) rfl (by kernel_rfl) (by kernel_rfl) (by kernel_rfl) (by kernel_rfl) (by kernel_rfl) (fun _ _ _ h => h) (Or.inl ⟨by kernel_rfl, by (intro W hW; go_simp)⟩) hS ?_
  refine wpAnyP_take (i := 9) (v := .agg #[.slice t.A r.name.length t.c, .int .i64 r.type, .int .i64 r.cls, .int .i64 r.ttl, .slice t.d.A0 r.data.bytes.length t.d.c0, .slice t.d.A1 r.data.host.length t.d.c1, .slice t.d.A2 r.data.mail.length t.d.c2, .slice t.d.A3 r.data.nums.length t.d.c3, .slice t.d.A4 r.data.texts.length t.d.c4]) rfl (by kernel_rfl) (by kernel_rfl) (by kernel_rfl) (by kernel_rfl) (by kernel_rfl) (fun _ _ _ h => h) (Or.inl ⟨by kernel_rfl, by (intro W hW; obtain ⟨c0, c1, c2, c3, c4, c5, c6, c7, c8⟩ := hW.2; go_simp)⟩) hS ?_
  have HBA : Hid (∀ (o : Obj), Below w6.drew.heap.size w6.drew (w6.drew.alloc o)) := fun o => bl.alloc (Nat.le_refl _) _
  obtain ⟨rb, hrb⟩ : ∃ g, g = w6.drew.heap.size := ⟨_, rfl⟩
  obtain ⟨w7, hw7⟩ : ∃ u, u = w6.drew.alloc (.cells #[.slice none 0 0, .int .i64 0, .int .i64 0, .int .i64 0, .slice none 0 0, .slice none 0 0, .slice none 0 0, .slice none 0 0, .slice none 0 0] 84) := ⟨_, rfl⟩
  have HR7 : Hid (w7.heap[rb]? = some (.cells #[.slice none 0 0, .int .i64 0, .int .i64 0, .int .i64 0, .slice none 0 0, .slice none 0 0, .slice none 0 0, .slice none 0 0, .slice none 0 0] 84 (0, 0))) := by show _ = _; rw [hw7, hrb]; exact heap_alloc_new w6.drew _
  have HB7 : Hid (Below w6.heap.size w6 w7) := by show Below _ _ _; rw [hw7]; exact (bl.drew : Below w6.heap.size w6 w6.drew).trans (HBA.out _)
  have HRB := Lib.hid hrb
  have HW7 := Lib.hid hw7
  clear hrb hw7
  refine wpAnyP_one (i := 10) rfl (by kernel_rfl) fun K hK => ?_
  go_simp
  refine hK _ (w6.drew.alloc (.cells #[.slice none 0 0, .int .i64 0, .int .i64 0, .int .i64 0, .slice none 0 0, .slice none 0 0, .slice none 0 0, .slice none 0 0, .slice none 0 0] 84)) (fun _ => by rw [← HW7.out]; exact ⟨below_cell HB7.out hS.1, RCells.below (w := w6) hS.2 HB7.out⟩) ?_
  clear hK
  rw [← HW7.out]
  have hrbe : w6.heap.size = rb := HRB.out.symm
  rw [hrbe]
  refine wpAnyP_one (i := 11) rfl (by kernel_rfl) fun K hK => ?_
  rw [if_pos (by kernel_rfl)]
  refine wpO_storeR rowRR (.tmp 6) (.tmp 42) rfl rb rfl (rrCells t r) rfl #[.slice none 0 0, .int .i64 0, .int .i64 0, .int .i64 0, .slice none 0 0, .slice none 0 0, .slice none 0 0, .slice none 0 0, .slice none 0 0] HR7.out rfl rfl (rr_one t r) fun w8 hu8 hc8 => ?_
  have HR8 : Hid (RRow w8 rb t r) := hu8
  have HB8 : Hid (Below w6.heap.size w6 w8) := HB7.out.trans (hc8.below (fun x hx => by have e2 : x = rb := hx; have e3 : rb = w6.heap.size := HRB.out; omega) HB7.out.size)
  refine hK _ _ (fun h => absurd h (by rw [show needS _ _ _ = false from by kernel_rfl]; decide)) ?_
  clear hK hu8 hc8 hS hrbe
  refine wpAnyP_done (by kernel_rfl) ?_ _
  clear hkl hkr hn0 hm1 hm2 hwk hwx hx
  have HW8 : Hid (Below w3.heap.size w3 w8) := nx HB36.out HB8.out
  have HTK : Hid (Below w.heap.size w w8) := nx HW3.out HW8.out
  have HSM : Hid (Lt17 r) := HL.out.r r HRM.out
  have HNM : Hid (∀ u, Below w8.heap.size w8 u → RdE encS u t.A r.name.length r.name ∧ RdE encRR u RA rs.length rs ∧ RdE encS u zA zn zs) := fun u hu => ⟨(HRI.out u (nx HB8.out hu)).n.mono (fun b hb => Nat.lt_of_lt_of_le hb (nx HB8.out hu).size) (fun b hb => Nat.lt_of_lt_of_le hb (nx HB8.out hu).size), HR.out u (nx HTK.out hu), HZ.out u (nx HTK.out hu)⟩
  have HNC : Hid (r.name.length ≤ t.c ∧ t.c ≤ maxLen) := (HRI.out w6 bl).cn
  obtain ⟨M, hM⟩ : ∃ M, M = answerP zs rs ⟨r.name, r.type, 1⟩ := ⟨_, rfl⟩
  have HMD : Hid (Made rs (2 * rs.length + 1) M) := by show Made _ _ _; rw [hM]; exact answerP_made zs rs _
  have HME := Lib.hid hM
  clear hM
  have HOWN : Hid (∀ u, Below w8.heap.size w8 u → Calls Try.prog 43 #[.agg #[.slice zA zn zc, .slice RA rs.length rc]] u (RetP (fun v w' => ∃ A c R k, v = .agg #[.slice A zn c, .slice R rs.length k] ∧ ZIv u.heap.size w'.heap.size w' A zn c R rs.length k zs rs) u)) := fun u hu => (zownZ_any zA RA zn zc rs.length rc zs rs u (HNM.out u hu).2.1 (HNM.out u hu).2.2 HL.out).mono (by rintro e w' ⟨v, rfl, ⟨A, c, R, m, rfl, ho⟩, hb⟩; exact ⟨_, rfl, ⟨A, c, R, m, rfl, ho.iv⟩, hb⟩)
  have HANS : Hid (∀ (u : World) (A R B : Option Addr) (c m n' c' : Nat) (ns : List (List UInt8)) (ty : Int) (lo hi : Nat), ZIv lo hi u A zn c R rs.length m zs rs → hi ≤ u.heap.size → RdE encS u B n' ns → n' ≤ 1000 → Calls Try.prog 42 #[.agg #[.slice A zn c, .slice R rs.length m], .agg #[.slice B n' c', .int .i64 ty, .int .i64 1]] u (RetP (fun v w' => ∃ s, v = msV s (answerP zs rs ⟨ns, ty, 1⟩) ∧ AIv u.heap.size w'.heap.size w' s (answerP zs rs ⟨ns, ty, 1⟩) ⟨ns, ty, 1⟩) u)) := fun u A R B c m n' c' ns ty lo hi hz hh hn hl =>
    (zanswer_any A R B zn c rs.length m n' c' zs ns rs ty 1 u (hz.r.mono (fun b hb => Nat.lt_of_lt_of_le hb.2 hh) (fun b hb => Nat.lt_of_lt_of_le hb.2 hh)) (hz.z.mono (fun b hb => Nat.lt_of_lt_of_le hb.2 hh) (fun b hb => Nat.lt_of_lt_of_le hb.2 hh)) hn hz.cz hz.cr.1 (by have := HL.out.n; omega) (by have := HL.out.z; have := HLE.out; omega) hl (fun r hr => (HL.out.r r hr).lightR) (fun r hr => (HL.out.r r hr).lt9) (fun r hr => by have := HL.out.r r hr; exact ⟨by have := this.2.2.1; omega, by have := this.1; omega⟩)).mono (by rintro e w' ⟨v, rfl, ⟨s, rfl, ho⟩, hb⟩; exact ⟨_, rfl, ⟨s, rfl, ho.iv⟩, hb⟩)
  go_upto_region 5 with (fail)
  refine wp_region_iv1 (n := 11) (by kernel_rfl) (by kernel_rfl) (by kernel_rfl) rfl (by kernel_rfl) (fun i => if i < 10 then i + 43 else 7) (fun i hi => by show (if i < 10 then i + 43 else 7) < 152; split <;> omega) (fun i j hi hj e => by have e2 : (if i < 10 then i + 43 else 7) = (if j < 10 then j + 43 else 7) := e; split at e2 <;> split at e2 <;> omega) (PsiA zA RA zn zc rc zs rs rb t r M) (fun j v lo hi w1 w2 _ hh hb h => psiA_below j v lo hi w1 w2 hh hb h) ?_ ?_
  · intro i hi a u hbw hsm hdep
    obtain ⟨x0, x1', x2, x3⟩ := HC.out u (nx HW8.out hbw)
    obtain ⟨r0, r1, r2, r3, r4, r5, r6, r7, r8⟩ := (RRow.below HR8.out hbw).cells
    have t2 : a.tmps[2]? = some (.pointer (some ⟨zb, 0, none⟩)) := (hsm.other 2 (fun j hj e => by have e2 : (if j < 10 then j + 43 else 7) = 2 := e; split at e2 <;> omega)).trans rfl
    have t6 : a.tmps[6]? = some (.pointer (some ⟨rb, 0, none⟩)) := (hsm.other 6 (fun j hj e => by have e2 : (if j < 10 then j + 43 else 7) = 6 := e; split at e2 <;> omega)).trans rfl
    have hcases : i = 0 ∨ i = 1 ∨ i = 2 ∨ i = 3 ∨ i = 4 ∨ i = 5 ∨ i = 6 ∨ i = 7 ∨ i = 8 ∨ i = 9 ∨ i = 10 := by omega
    rcases hcases with rfl | rfl | rfl | rfl | rfl | rfl | rfl | rfl | rfl | rfl | rfl
    · refine wpOp_plain rfl rfl ?_
      exact wp_val (v := .agg #[.slice zA zn zc, .slice RA rs.length rc]) (by simp [t2, go_sem, x0, x1']) ⟨_, rfl, bl, rfl⟩
    · obtain ⟨v0, lo0, hi0, hv0, hp0, _, _⟩ := hdep 0 (by kernel_rfl)
      have hp0' : v0 = .agg #[.slice zA zn zc, .slice RA rs.length rc] := hp0
      subst hp0'
      have hO := HOWN.out u hbw
      clear t2 t6 x0 x1' x2 x3 r0 r1 r2 r3 r4 r5 r6 r7 r8 hdep
      refine wpOp_plain rfl rfl ?_
      generalize hK : (fun (a2 : Act) (w2 : World) => _) = K
      have e1 : a.tmps[43]? = some (.agg #[.slice zA zn zc, .slice RA rs.length rc]) := hv0
      have e2 := eval_tmp e1
      go_simp
      refine hO.mono ?_
      rintro e w' ⟨v', rfl, ho, hb'⟩
      rw [← hK]
      exact ⟨_, rfl, hb', ho⟩
    · refine wpOp_plain rfl rfl ?_
      generalize hK : (fun (a2 : Act) (w2 : World) => _) = K
      go_simp
      rw [← hK]
      exact ⟨_, rfl, bl.alloc (Nat.le_refl _) _, rfl, heap_alloc_new _ _, by simp⟩
    · refine wpOp_plain rfl rfl ?_
      exact wp_val (v := .pointer (some ⟨rb, 0, none⟩)) (by simp [t6, go_sem]) ⟨_, rfl, bl, rfl⟩
    · obtain ⟨v3, lo3, hi3, hv3, hp3, _, _⟩ := hdep 3 (by kernel_rfl)
      have hp3' : v3 = .pointer (some ⟨rb, 0, none⟩) := hp3
      subst hp3'
      have e1 : a.tmps[46]? = some (.pointer (some ⟨rb, 0, none⟩)) := hv3
      refine wpOp_plain rfl rfl ?_
      exact wp_val (v := .slice t.A r.name.length t.c) (by simp [e1, go_sem, r0]) ⟨_, rfl, bl, rfl⟩
    · obtain ⟨v2, lo2, hi2, hv2, hp2, hl2, hh2⟩ := hdep 2 (by kernel_rfl)
      obtain ⟨v4, lo4, hi4, hv4, hp4, _, _⟩ := hdep 4 (by kernel_rfl)
      obtain ⟨rfl, hb2, hlt2⟩ := (show v2 = .slice (some ⟨lo2, 0, none⟩) 0 0 ∧ u.heap[lo2]? = some (.cells #[] 9 (0, 0)) ∧ lo2 < hi2 from hp2)
      have hp4' : v4 = .slice t.A r.name.length t.c := hp4
      subst hp4'
      refine wpOp_plain rfl rfl ?_
      generalize hK : (fun (a2 : Act) (w2 : World) => _) = K
      have e1 : a.tmps[45]? = some (.slice (some ⟨lo2, 0, none⟩) 0 0) := hv2
      have e2 : a.tmps[47]? = some (.slice t.A r.name.length t.c) := hv4
      have e3 := eval_tmp e1
      have e4 := eval_tmp e2
      have hzw := (HNM.out u hbw).1
      obtain ⟨i0, hi0, hzz0, hs0, hy0⟩ := info_parts infoS
      obtain ⟨v', w', hrun, h1, h2, hfr⟩ := run_clone (P := Try.prog) (w := u) 23 Try.underlying23 hi0 hzz0 hs0 hy0 rfl (Nat.zero_le lo2) hb2 t.A r.name.length t.c (r.name.map strV) (strs_rd hzw) (fun x hx => by obtain ⟨y, _, rfl⟩ := List.mem_map.1 hx; rfl) (by have := HSM.out.1; unfold maxLen; omega) (by have := HSM.out.1; omega)
      obtain ⟨A3, c3, hv', he, hc1, hc2⟩ := (own_strs h1 (strs_max hzw)).form
      subst hv'
      unfold Oper.wp execOp
      simp only [List.getElem_toArray, List.getElem_cons_succ, List.getElem_cons_zero, resolve, invoke, builtin, Sem.run_bind, Sem.run_pure, Result.andThen_ok, List.map_toArray, List.map_cons, List.map_nil, e3, e4, hrun]
      show K _ _
      rw [← hK]
      refine ⟨_, rfl, h2, ⟨A3, c3, rfl, he.mono (fun b hb => (World.ownsRow.lt h1 b hb).2) (fun b hb => hb.elim), hc1, hc2⟩⟩
    · refine wpOp_plain rfl rfl ?_
      exact wp_val (v := .pointer (some ⟨rb, 1, none⟩)) (by simp [t6, go_sem]) ⟨_, rfl, bl, rfl⟩
    · obtain ⟨v6, lo6, hi6, hv6, hp6, _, _⟩ := hdep 6 (by kernel_rfl)
      have hp6' : v6 = .pointer (some ⟨rb, 1, none⟩) := hp6
      subst hp6'
      have e1 : a.tmps[49]? = some (.pointer (some ⟨rb, 1, none⟩)) := hv6
      refine wpOp_plain rfl rfl ?_
      exact wp_val (v := .int .i64 r.type) (by simp [e1, go_sem, r1]) ⟨_, rfl, bl, rfl⟩
    · obtain ⟨v5, lo5, hi5, hv5, hp5, _, _⟩ := hdep 5 (by kernel_rfl)
      obtain ⟨v7, lo7, hi7, hv7, hp7, _, _⟩ := hdep 7 (by kernel_rfl)
      obtain ⟨A5, c5, rfl, h5, h6, h7⟩ := (show ∃ A c, v5 = .slice A r.name.length c ∧ RdE encS u A r.name.length r.name ∧ r.name.length ≤ c ∧ c ≤ maxLen from hp5)
      have hp7' : v7 = .int .i64 r.type := hp7
      subst hp7'
      have e1 : a.tmps[48]? = some (.slice A5 r.name.length c5) := hv5
      have e2 : a.tmps[50]? = some (.int .i64 r.type) := hv7
      refine wpOp_plain rfl rfl ?_
      exact wp_val (v := .agg #[.slice A5 r.name.length c5, .int .i64 r.type, .int .i64 1]) (by simp [e1, e2, go_sem]) ⟨_, rfl, bl, ⟨A5, c5, rfl, h5, h6, h7⟩⟩
    · obtain ⟨v1, lo1, hi1, hv1, hp1, _, hh1⟩ := hdep 1 (by kernel_rfl)
      obtain ⟨v8, lo8, hi8, hv8, hp8, _, _⟩ := hdep 8 (by kernel_rfl)
      obtain ⟨A1, c1, R1, m1, rfl, hz1⟩ := (show ∃ A c R m, v1 = .agg #[.slice A zn c, .slice R rs.length m] ∧ ZIv lo1 hi1 u A zn c R rs.length m zs rs from hp1)
      obtain ⟨A8, c8, rfl, h8, h9, h10⟩ := (show ∃ A c, v8 = .agg #[.slice A r.name.length c, .int .i64 r.type, .int .i64 1] ∧ RdE encS u A r.name.length r.name ∧ r.name.length ≤ c ∧ c ≤ maxLen from hp8)
      have hA := HANS.out u A1 R1 A8 c1 m1 r.name.length c8 r.name r.type lo1 hi1 hz1 hh1 h8 (by have := HSM.out.1; omega)
      rw [← HME.out] at hA
      clear t2 t6 x0 x1' x2 x3 r0 r1 r2 r3 r4 r5 r6 r7 r8 hdep
      refine wpOp_plain rfl rfl ?_
      generalize hK : (fun (a2 : Act) (w2 : World) => _) = K
      have e1 : a.tmps[44]? = some (.agg #[.slice A1 zn c1, .slice R1 rs.length m1]) := hv1
      have e2 : a.tmps[51]? = some (.agg #[.slice A8 r.name.length c8, .int .i64 r.type, .int .i64 1]) := hv8
      have e3 := eval_tmp e1
      have e4 := eval_tmp e2
      go_simp
      refine hA.mono ?_
      rintro e w' ⟨v', rfl, ho, hb'⟩
      rw [← hK]
      exact ⟨_, rfl, hb', ho⟩
    · refine wpOp_plain rfl rfl ?_
      generalize hK : (fun (a2 : Act) (w2 : World) => _) = K
      go_simp
      rw [← hK]
      exact ⟨_, rfl, bl.alloc (Nat.le_refl _) _, rfl, by simp, MRow.made u MS.nil msNone⟩
  · intro a u lo hi hbw hsm hdep hdis
    obtain ⟨v0, hv0, hp0, _⟩ := hdep 0 (by omega)
    obtain ⟨v1, hv1, hp1, _, _⟩ := hdep 1 (by omega)
    obtain ⟨v2, hv2, hp2, _⟩ := hdep 2 (by omega)
    obtain ⟨v3, hv3, hp3, _⟩ := hdep 3 (by omega)
    obtain ⟨v4, hv4, hp4, _⟩ := hdep 4 (by omega)
    obtain ⟨v5, hv5, hp5, _⟩ := hdep 5 (by omega)
    obtain ⟨v6, hv6, hp6, _⟩ := hdep 6 (by omega)
    obtain ⟨v7, hv7, hp7, _⟩ := hdep 7 (by omega)
    obtain ⟨v8, hv8, hp8, _⟩ := hdep 8 (by omega)
    obtain ⟨v9, hv9, hp9, hl9, hh9⟩ := hdep 9 (by omega)
    obtain ⟨v10, hv10, hp10, hl10, hh10⟩ := hdep 10 (by omega)
    have d910 := hdis 9 10 (by omega) (by omega) (by omega)
    have hp0' : v0 = .agg #[.slice zA zn zc, .slice RA rs.length rc] := hp0
    have hp3' : v3 = .pointer (some ⟨rb, 0, none⟩) := hp3
    have hp4' : v4 = .slice t.A r.name.length t.c := hp4
    have hp6' : v6 = .pointer (some ⟨rb, 1, none⟩) := hp6
    have hp7' : v7 = .int .i64 r.type := hp7
    obtain ⟨A1, c1, R1, m1, rfl, _⟩ := (show ∃ A c R m, v1 = .agg #[.slice A zn c, .slice R rs.length m] ∧ ZIv (lo 1) (hi 1) u A zn c R rs.length m zs rs from hp1)
    obtain ⟨rfl, _, _⟩ := (show v2 = .slice (some ⟨lo 2, 0, none⟩) 0 0 ∧ u.heap[lo 2]? = some (.cells #[] 9 (0, 0)) ∧ lo 2 < hi 2 from hp2)
    obtain ⟨A5, c5, rfl, _⟩ := (show ∃ A c, v5 = .slice A r.name.length c ∧ RdE encS u A r.name.length r.name ∧ r.name.length ≤ c ∧ c ≤ maxLen from hp5)
    obtain ⟨A8, c8, rfl, _⟩ := (show ∃ A c, v8 = .agg #[.slice A r.name.length c, .int .i64 r.type, .int .i64 1] ∧ RdE encS u A r.name.length r.name ∧ r.name.length ≤ c ∧ c ≤ maxLen from hp8)
    obtain ⟨s3, rfl, ha3⟩ := (show ∃ s, v9 = msV s M ∧ AIv (lo 9) (hi 9) u s M ⟨r.name, r.type, 1⟩ from hp9)
    obtain ⟨rfl, g4, hm4⟩ := (show v10 = .pointer (some ⟨lo 10, 0, none⟩) ∧ lo 10 < hi 10 ∧ MRow u (lo 10) MS.nil msNone from hp10)
    subst hp0' hp3' hp4' hp6' hp7'
    have ha := hsm.eq (fun i hi => by show (if i < 10 then i + 43 else 7) < 152; split <;> omega) (fun i j hi hj e => by have e2 : (if i < 10 then i + 43 else 7) = (if j < 10 then j + 43 else 7) := e; split at e2 <;> split at e2 <;> omega) (fun j => ([.agg #[.slice zA zn zc, .slice RA rs.length rc], .agg #[.slice A1 zn c1, .slice R1 rs.length m1], .slice (some ⟨lo 2, 0, none⟩) 0 0, .pointer (some ⟨rb, 0, none⟩), .slice t.A r.name.length t.c, .slice A5 r.name.length c5, .pointer (some ⟨rb, 1, none⟩), .int .i64 r.type, .agg #[.slice A8 r.name.length c8, .int .i64 r.type, .int .i64 1], msV s3 M, .pointer (some ⟨lo 10, 0, none⟩)] : List Value).getD j undef) (fun j hj => by
      have hcases : j = 0 ∨ j = 1 ∨ j = 2 ∨ j = 3 ∨ j = 4 ∨ j = 5 ∨ j = 6 ∨ j = 7 ∨ j = 8 ∨ j = 9 ∨ j = 10 := by omega
      rcases hcases with rfl | rfl | rfl | rfl | rfl | rfl | rfl | rfl | rfl | rfl | rfl
      · exact hv0
      · exact hv1
      · exact hv2
      · exact hv3
      · exact hv4
      · exact hv5
      · exact hv6
      · exact hv7
      · exact hv8
      · exact hv9
      · exact hv10)
    have t7 : a.tmps[7]? = some (.pointer (some ⟨lo 10, 0, none⟩)) := hv10
    have t52 : a.tmps[52]? = some (.agg (mCells s3 M)) := hv9
    refine wpOp_plain rfl rfl ?_
    refine wpO_storeR rowMsZ (.tmp 7) (.tmp 52) rfl (lo 10) (eval_tmp t7) (mCells s3 M) (eval_tmp t52) (mCells MS.nil msNone) hm4 rfl rfl (mCells_one _ _) fun u1 hu1 hc1 => ?_
    have HMB : Hid (MRow u1 (lo 10) s3 M) := hu1
    have HA3 : Hid (AIv (lo 9) (hi 9) u1 s3 M ⟨r.name, r.type, 1⟩) := ha3.keep (fun b hb => hc1.block b (Nat.lt_of_lt_of_le hb.2 hh9) (fun e => by have h1 := hb.1; have h2 := hb.2; have e2 : b = lo 10 := e; omega))
    have HU1 : Hid (Below w8.heap.size w8 u1) := hbw.trans (hc1.below (fun x hx => by have e2 : x = lo 10 := hx; omega) hbw.size)
    have HHI : Hid (hi 9 ≤ u1.heap.size) := Nat.le_trans hh9 hc1.size
    clear hc1 hu1 t7 t52 hv0 hv1 hv2 hv3 hv4 hv5 hv6 hv7 hv8 hv9 hv10 hp0 hp1 hp2 hp3 hp4 hp5 hp6 hp7 hp8 hp9 hp10 d910 ha3 hm4 hdep hdis hh9 hh10 hl9 hl10 g4
    obtain ⟨mb, hmb⟩ : ∃ b, b = lo 10 := ⟨_, rfl⟩
    rw [← hmb] at HMB ha
    obtain ⟨L3, hL3⟩ : ∃ b, b = lo 9 := ⟨_, rfl⟩
    obtain ⟨H3, hH3⟩ : ∃ b, b = hi 9 := ⟨_, rfl⟩
    rw [← hL3, ← hH3] at HA3
    rw [← hH3] at HHI
    obtain ⟨b2, hb2⟩ : ∃ b, b = lo 2 := ⟨_, rfl⟩
    rw [← hb2] at ha
    show Exit.then _ _ _ a u1
    rw [ha]
    clear ha hsm hmb hbw hL3 hH3 hb2
    simp only [show List.range 11 = [0, 1, 2, 3, 4, 5, 6, 7, 8, 9, 10] from rfl, List.foldl_cons, List.foldl_nil, Nat.reduceLT, ↓reduceIte, Nat.reduceAdd, List.getD_cons_zero, List.getD_cons_succ]
    go_simp
    go_upto_region 6 with (fail)
    obtain ⟨x0, x1', x2, x3⟩ := HC.out u1 (nx HW8.out HU1.out)
    obtain ⟨r0, r1, r2, r3, r4, r5, r6, r7, r8⟩ := (RRow.below HR8.out HU1.out).cells
    have HCUT := Lib.hid (rzcut_any zA RA zn zc rs.length rc rs t.A r.name.length t.c r.name u1 (So := ltS u1) (Si := ltS u1) (HNM.out u1 HU1.out).2.1 (HNM.out u1 HU1.out).1 (fun b hb => hb) (fun b hb => hb) (by have := HL.out.n; omega) (by have := HSM.out.1; omega) HNC.out (by have := HL.out.z; have := HLE.out; omega) (fun x hx => by have := (HL.out.r x hx).1; unfold maxLen; omega))
    obtain ⟨ct, hct⟩ : ∃ x, x = cutP rs zn r.name := ⟨_, rfl⟩
    rw [← hct] at HCUT
    have HCT : Hid (cutP rs zs.length r.name = ct) := by show _ = _; rw [HLE.out]; exact hct.symm
    clear hct
    have HAB := Lib.hid (asked_answ HZS.out HRM.out r.type)
    cases ct with
    | some j =>
      have hq := asked_cut HAB.out HCT.out
      rw [← HME.out] at hq
      obtain ⟨hq1, hq2⟩ := hq
      go_upto_region 8 with (go_at_call 45; refine HCUT.out.mono ?_; rintro e w10 ⟨v10, rfl, ⟨A2, c2, rfl, hj, he, hc2⟩, hb10⟩; have HB10 : Hid (Below u1.heap.size u1 w10) := hb10; clear he hb10 hc2 hj)
      have y3 : w10.cell? ⟨mb, 3, none⟩ = some (.bool false) := by rw [← hq1]; exact ((HMB.out.below HB10.out).cell 3).trans rfl
      have y9 : w10.cell? ⟨mb, 9, none⟩ = some (.slice s3.A 0 s3.ac) := by
        have h1 : w10.cell? ⟨mb, 9, none⟩ = some (.slice s3.A M.an.length s3.ac) := ((HMB.out.below HB10.out).cell 9).trans rfl
        rw [hq2] at h1
        exact h1
      clear hq1 hq2 x0 x1' x2 x3 r0 r1 r2 r3 r4 r5 r6 r7 r8
      go_wp2
      go_ret
      exact ⟨rfl, nx (nx HTK.out HU1.out) HB10.out⟩
    | none =>
    have hq := asked_set HRM.out HAB.out HCT.out
    rw [← HME.out] at hq
    have HQ := Lib.hid hq
    clear hq
    go_upto_region 9 with (go_at_call 45; refine HCUT.out.mono ?_; rintro e w10 ⟨v10, rfl, rfl, hb10⟩; have HB10 : Hid (Below u1.heap.size u1 w10) := hb10; clear hb10)
    clear x0 x1' x2 x3 r0 r1 r2 r3 r4 r5 r6 r7 r8
    have HU10 : Hid (Below w8.heap.size w8 w10) := nx HU1.out HB10.out
    have HX : Hid (∀ u, Below w10.heap.size w10 u → (u.cell? ⟨zb, 0, none⟩ = some (.slice zA zn zc) ∧ u.cell? ⟨zb, 1, none⟩ = some (.slice RA rs.length rc) ∧ u.cell? ⟨pb, 0, none⟩ = some (.slice zA zn zc) ∧ u.cell? ⟨pb, 1, none⟩ = some (.slice RA rs.length rc)) ∧ RRow u rb t r ∧ MRow u mb s3 M) := fun u hu => ⟨HC.out u (nx (nx HW8.out HU10.out) hu), RRow.below HR8.out (nx HU10.out hu), HMB.out.below (nx HB10.out hu)⟩
    have HLa : Hid (M.an.length ≤ 201 ∧ M.au.length ≤ 100) := by
      have h1 := HMD.out.la; have h2 := HMD.out.lu; have h4 := HL.out.n
      exact ⟨by omega, by omega⟩
    obtain ⟨st, hst⟩ : ∃ x, x = setP rs r.name r.type := ⟨_, rfl⟩
    have HSTE : Hid (setP M.an r.name r.type = st) := by
      show _ = _
      rw [HQ.out.1, hst]
      obtain ⟨i, hi, h1⟩ := zone_of HZS.out HRM.out
      refine set_of (one_parts h1).2.2.2.2.1 (fun x hx => ?_)
      obtain ⟨i', hi', h2⟩ := zone_of HZS.out hx
      exact (one_parts h2).2.1
    have HSL : Hid (st.1.length ≤ 100) := by show _ ≤ _; rw [hst]; exact Nat.le_trans (setP_len _ _ _) HL.out.n
    have HSET1 := Lib.hid (rset_any s3.A t.A M.an.length s3.ac r.name.length t.c M.an r.name r.type w10 ((HA3.out.a.keep (fun b hb => HB10.out.block b (Nat.lt_of_lt_of_le hb.2 HHI.out)) (fun b hb => HB10.out.block b (Nat.lt_of_lt_of_le hb.2 HHI.out))).mono (fun b hb => Nat.lt_of_lt_of_le (Nat.lt_of_lt_of_le hb.2 HHI.out) HB10.out.size) (fun b hb => Nat.lt_of_lt_of_le (Nat.lt_of_lt_of_le hb.2 HHI.out) HB10.out.size)) (HNM.out w10 HU10.out).1 (by have := HLa.out.1; omega) (Nat.le_trans HNC.out.1 HNC.out.2) (fun x hx => (HL.out.r x (HMD.out.a x hx)).light9))
    have HSET2 : Hid (∀ u, Below w10.heap.size w10 u → Calls Try.prog 46 #[.slice RA rs.length rc, .slice t.A r.name.length t.c, .int .i64 r.type] u (RetP (fun v w' => ∃ sv, v = .tuple #[sv, .int .i64 st.2] ∧ SetR u w' sv st.1) u)) := fun u hu => by
      have h := rset_any RA t.A rs.length rc r.name.length t.c rs r.name r.type u (HNM.out u (nx HU10.out hu)).2.1 (HNM.out u (nx HU10.out hu)).1 (by have := HL.out.n; omega) (Nat.le_trans HNC.out.1 HNC.out.2) (fun x hx => (HL.out.r x hx).light9)
      rw [← hst] at h
      exact h
    rw [HSTE.out] at HSET1
    clear hst
    obtain ⟨sl, ttl⟩ := st
    obtain ⟨⟨x0, x1', x2, x3⟩, hrr, hmm⟩ := HX.out w10 bl
    obtain ⟨r0, r1, r2, r3, r4, r5, r6, r7, r8⟩ := hrr.cells
    have m9 : w10.cell? ⟨mb, 9, none⟩ = some (.slice s3.A M.an.length s3.ac) := (hmm.cell 9).trans rfl
    clear hrr hmm
    go_upto_region 10 with (go_at_call 46; (with_reducible refine HSET1.out.mono ?_); rintro e w11 ⟨v11, rfl, ⟨sv1, rfl, hs1⟩, hb11⟩; obtain ⟨S1, c1', hsv1, hr1, hl1, hm1⟩ := hs1.rd; have HR1 := Lib.hid hr1; have HB11 : Hid (Below w10.heap.size w10 w11) := hb11; obtain ⟨n1, hn1⟩ : ∃ k, k = sl.length := ⟨_, rfl⟩; rw [← hn1] at hsv1; have HN1 := Lib.hid hn1; clear hs1 hr1 hl1 hm1 hb11 hn1; subst hsv1)
    clear x0 x1' x2 x3 r0 r1 r2 r3 r4 r5 r6 r7 r8 m9
    obtain ⟨⟨x0, x1', x2, x3⟩, hrr, hmm⟩ := HX.out w11 HB11.out
    obtain ⟨r0, r1, r2, r3, r4, r5, r6, r7, r8⟩ := hrr.cells
    clear hrr hmm
    go_upto_region 11 with (go_at_call 46; (with_reducible refine (HSET2.out w11 HB11.out).mono ?_); rintro e w12 ⟨v12, rfl, ⟨sv2, rfl, hs2⟩, hb12⟩; obtain ⟨S2, c2', hsv2, hr2, hl2, hm2⟩ := hs2.rd; have HR2 := Lib.hid hr2; have HB12 : Hid (Below w11.heap.size w11 w12) := hb12; rw [← HN1.out] at hsv2; clear hs2 hr2 hl2 hm2 hb12; subst hsv2)
    clear x0 x1' x2 x3 r0 r1 r2 r3 r4 r5 r6 r7 r8
    have HSS := Lib.hid (rsameSet_any S1 S2 n1 c1' n1 c2' sl sl w12 (by rw [HN1.out]; exact HR1.out.below HB12.out) (by rw [HN1.out]; exact HR2.out) (by have := HSL.out; have := HN1.out; omega) (by have := HSL.out; have := HN1.out; omega))
    rw [sameS_refl] at HSS
    have htt : (ttl != ttl) = false := by simp
    have HM3 : Hid (∀ u, Below w12.heap.size w12 u → u.cell? ⟨mb, 3, none⟩ = some (.bool true) ∧ u.cell? ⟨mb, 7, none⟩ = some (.int .i64 0)) := fun u hu => by
      have h0 := (HX.out u (nx (nx HB11.out HB12.out) hu)).2.2
      refine ⟨?_, ?_⟩
      · rw [← HQ.out.2.1]; exact (h0.cell 3).trans rfl
      · rw [← HQ.out.2.2]; exact (h0.cell 7).trans rfl
    go_upto_region 13 with (go_at_call 47; refine HSS.out.mono ?_; rintro e w13 ⟨v13, rfl, rfl, hb13⟩; have HB13 : Hid (Below w12.heap.size w12 w13) := hb13; obtain ⟨m3, m7⟩ := HM3.out w13 hb13; clear hb13)
    clear htt m3 m7
    have HW13 : Hid (Below w10.heap.size w10 w13) := nx (nx HB11.out HB12.out) HB13.out
    obtain ⟨⟨x0, x1', x2, x3⟩, hrr, hmm⟩ := HX.out w13 HW13.out
    obtain ⟨r0, r1, r2, r3, r4, r5, r6, r7, r8⟩ := hrr.cells
    obtain ⟨w14, hw14⟩ : ∃ u, u = w13.alloc (.cells #[.string ⟨#[110, 111, 98, 111, 100, 121, 45, 105, 115, 45, 99, 97, 108, 108, 101, 100, 45, 115, 111]⟩] 9) := ⟨_, rfl⟩
    have HB14 : Hid (Below w13.heap.size w13 w14) := by show Below _ _ _; rw [hw14]; exact bl.alloc (Nat.le_refl _) _
    obtain ⟨b14, hb14⟩ : ∃ b, b = w13.heap.size := ⟨_, rfl⟩
    have HO14 : Hid (OwnE encS 9 noS w14 b14 (.slice (some ⟨b14, 0, none⟩) 1 1) [nobL]) := by
      show OwnE _ _ _ _ _ _ _
      rw [hw14, hb14]
      exact own_litZ (E := encS) (e := 9) (w := w13) (S := noS) (r := [.string ⟨#[110, 111, 98, 111, 100, 121, 45, 105, 115, 45, 99, 97, 108, 108, 101, 100, 45, 115, 111]⟩]) (x := nobL) ⟨rfl, by decide⟩ (fun b hb => hb.elim)
    have HN14 : Hid (RdE encS w14 t.A r.name.length r.name) := (HNM.out w14 (nx HU10.out (nx HW13.out HB14.out))).1
    have HS14 : Hid (Els encS (ltS w8) (ltS w8) w14 t.A r.name.length r.name ∧ ∀ b, ltS w8 b → b < w14.heap.size ∧ some b ≠ (Value.slice (some ⟨b14, 0, none⟩) 1 1).ownBlock) := by
      have hb8 : Below w8.heap.size w8 w14 := nx HU10.out (nx HW13.out HB14.out)
      refine ⟨((HNM.out w8 bl).1 : Els encS (ltS w8) (ltS w8) w8 t.A r.name.length r.name).keep (fun b hb => hb8.block b hb) (fun b hb => hb8.block b hb), fun b hb => ⟨Nat.lt_of_lt_of_le hb hb8.size, fun e => ?_⟩⟩
      have e2 : b = b14 := by have e3 : some b = some b14 := e; injection e3
      have h1 := (nx HU10.out HW13.out).size
      have h2 : b < w8.heap.size := hb
      omega
    have HBE := Lib.hid hb14
    have HW14 := Lib.hid hw14
    clear hrr hmm hw14 hb14
    have x4 : w14.cell? ⟨rb, 0, none⟩ = some (.slice t.A r.name.length t.c) := below_cell HB14.out r0
    rw [HW14.out] at x4
    clear x0 x1' x2 x3 r1 r2 r3 r4 r5 r6 r7 r8
    go_upto_region 14 with ((with_reducible show wpList _ _ _ (⟨some 112, _, _, _, _, _⟩ :: _) _ _); rw [← HW14.out, ← HBE.out]; refine wpL_appE (w := w14) elS rfl (.tmp 109) (.tmp 111) rfl b14 (.slice (some ⟨b14, 0, none⟩) 1 1) [nobL] rfl HO14.out t.A r.name.length t.c r.name HS14.out.1 HS14.out.2 rfl (by have := HSM.out.1; simp; omega) (by have := HSM.out.1; unfold maxLen; simp; omega) (by rw [HBE.out]; exact HB14.out.size) ?_; intro v15 w15 hown15 hg15 hat15; obtain ⟨A15, c15, hv15, _, hc15, hd15⟩ := OwnE.form hown15; have HO15 := Lib.hid hown15; have HG15 := Lib.hid hg15; have HC15 : Hid ((nobL :: r.name).length ≤ c15 ∧ c15 ≤ maxLen) := ⟨hc15, hd15⟩; obtain ⟨n15, hn15⟩ : ∃ k, k = (nobL :: r.name).length := ⟨_, rfl⟩; rw [show ([nobL] ++ r.name) = nobL :: r.name from rfl, ← hn15] at hv15; have HN15 := Lib.hid hn15; clear hown15 hg15 hat15 hn15 hc15 hd15; subst hv15)
    clear r0 x4
    have HB15 : Hid (Below w13.heap.size w13 w15) := Below.grown HB14.out HG15.out HB14.out.size (fun k hk => by have := (OwnE.lt HO14.out k hk).1; rw [HBE.out] at this; exact this)
    have HW15 : Hid (Below w10.heap.size w10 w15) := nx HW13.out HB15.out
    have HRD15 : Hid (∀ u, Below w15.heap.size w15 u → RdE encS u A15 n15 (nobL :: r.name)) := fun u hu => by
      obtain ⟨A', c', hv, he, _, _⟩ := OwnE.rdE (OwnE.below HO15.out hu)
      injection hv with e1 e2 e3
      subst e1
      rw [HN15.out]
      exact he
    have HNB : Hid (n15 ≤ 131 ∧ n15 ≤ c15 ∧ c15 ≤ maxLen) := by
      have h1 := HSM.out.1
      have h2 := HN15.out
      rw [List.length_cons] at h2
      exact ⟨by omega, by rw [HN15.out]; exact HC15.out.1, HC15.out.2⟩
    have HSD := Lib.hid (rsound_any A15 n15 c15 (nobL :: r.name) w15 (HRD15.out w15 bl))
    have HTH : Hid (∀ u, Below w15.heap.size w15 u → Calls Try.prog 48 #[.agg #[.slice zA zn zc, .slice RA rs.length rc], .slice A15 n15 c15] u (RetP (fun v _ => v = .bool (rs.any fun x => underB x.name (nobL :: r.name))) u)) := fun u hu => rzthere_any zA RA zn zc rs.length rc rs A15 n15 c15 (nobL :: r.name) u (HNM.out u (nx HU10.out (nx HW15.out hu))).2.1 (HRD15.out u hu) (by have := HL.out.n; omega) (by have := HNB.out; omega) (fun x hx => by have := (HL.out.r x hx).1; omega)
    obtain ⟨⟨x0, x1', x2, x3⟩, _, _⟩ := HX.out w15 HW15.out
    obtain ⟨sd, hsd⟩ : ∃ c, c = soundB (nobL :: r.name) := ⟨_, rfl⟩
    obtain ⟨th, hth⟩ : ∃ c, c = rs.any fun x => underB x.name (nobL :: r.name) := ⟨_, rfl⟩
    rw [← hsd] at HSD
    rw [← hth] at HTH
    have HSDE := Lib.hid hsd
    have HTHE := Lib.hid hth
    clear hsd hth
    have HEND15 : Hid (Below w.heap.size w w15) := nx (nx HTK.out HU10.out) HW15.out
    cases sd with
    | false =>
      go_wp2_with (go_at_call 27; refine HSD.out.mono ?_; rintro e w16 ⟨rfl, rfl⟩)
      go_ret
      exact ⟨rfl, HEND15.out⟩
    | true =>
    cases th with
    | true =>
      go_wp2_with (first
        | (go_at_call 48; refine (HTH.out w15 bl).mono ?_; rintro e w17 ⟨v17, rfl, rfl, hb17⟩; have HB17 : Hid (Below w15.heap.size w15 w17) := hb17; clear hb17)
        | (go_at_call 27; refine HSD.out.mono ?_; rintro e w16 ⟨rfl, rfl⟩)
        | fail)
      go_ret
      exact ⟨rfl, nx HEND15.out HB17.out⟩
    | false =>
    go_upto_region 16 with (first
        | (go_at_call 48; refine (HTH.out w15 bl).mono ?_; rintro e w17 ⟨v17, rfl, rfl, hb17⟩; have HB17 : Hid (Below w15.heap.size w15 w17) := hb17; clear hb17)
        | (go_at_call 27; refine HSD.out.mono ?_; rintro e w16 ⟨rfl, rfl⟩)
        | fail)
    clear x0 x1' x2 x3
    have HW17 : Hid (Below w10.heap.size w10 w17) := nx HW15.out HB17.out
    obtain ⟨⟨x0, x1', x2, x3⟩, _, _⟩ := HX.out w17 HW17.out
    obtain ⟨Kk, hKk⟩ : ∃ M, M = answerP zs rs ⟨nobL :: r.name, 1, 1⟩ := ⟨_, rfl⟩
    have HKE := Lib.hid hKk
    clear hKk
    go_upto_region 17 with (first
        | (go_at_call 42; (with_reducible refine (HANS.out w18 A18 R18 A15 c18 k18 n15 c15 (nobL :: r.name) 1 w17.heap.size w18.heap.size HZ18.out (Nat.le_refl _) (HRD15.out w18 (nx HB17.out HB18.out)) (by have := HNB.out; omega)).mono ?_); rw [← HKE.out]; rintro e w19 ⟨v19, rfl, ⟨s19, rfl, ha19⟩, hb19⟩; have HA19 := Lib.hid ha19; have HB19 : Hid (Below w18.heap.size w18 w19) := hb19; unfold msV mCells; clear ha19 hb19)
        | (go_at_call 43; refine (HOWN.out w17 (nx HU10.out HW17.out)).mono ?_; rintro e w18 ⟨v18, rfl, ⟨A18, c18, R18, k18, rfl, hz18⟩, hb18⟩; have HZ18 := Lib.hid hz18; have HB18 : Hid (Below w17.heap.size w17 w18) := hb18; clear hz18 hb18)
        | fail)
    clear x0 x1' x2 x3
    obtain ⟨w20, hw20⟩ : ∃ u, u = w19.alloc (.cells (mCells s19 Kk) 31) := ⟨_, rfl⟩
    obtain ⟨kb, hkb⟩ : ∃ g, g = w19.heap.size := ⟨_, rfl⟩
    have HB20 : Hid (Below w19.heap.size w19 w20) := by show Below _ _ _; rw [hw20]; exact bl.alloc (Nat.le_refl _) _
    have HK20 : Hid (MRow w20 kb s19 Kk) := by show MRow _ _ _ _; rw [hw20, hkb]; exact MRow.made w19 _ _
    have HW20 : Hid (Below w17.heap.size w17 w20) := nx (nx HB18.out HB19.out) HB20.out
    unfold mCells at hw20
    rw [← hw20]
    clear hw20
    rw [← hkb]
    clear hkb
    obtain ⟨⟨x0, x1', x2, x3⟩, _, _⟩ := HX.out w20 (nx HW17.out HW20.out)
    have HRD20 : Hid (RdE encS w20 A15 n15 (nobL :: r.name)) := HRD15.out w20 (nx HB17.out HW20.out)
    have HCUT2 := Lib.hid (rzcut_any zA RA zn zc rs.length rc rs A15 n15 c15 (nobL :: r.name) w20 (So := ltS w20) (Si := ltS w20) (HNM.out w20 (nx HU10.out (nx HW17.out HW20.out))).2.1 HRD20.out (fun b hb => hb) (fun b hb => hb) (by have := HL.out.n; omega) (by have := HNB.out; omega) HNB.out.2 (by have := HL.out.z; have := HLE.out; omega) (fun x hx => by have := (HL.out.r x hx).1; unfold maxLen; omega))
    obtain ⟨ct, hct⟩ : ∃ x, x = cutP rs zn (nobL :: r.name) := ⟨_, rfl⟩
    rw [← hct] at HCUT2
    have HCT2 : Hid (cutP rs zs.length (nobL :: r.name) = ct) := by show _ = _; rw [HLE.out]; exact hct.symm
    clear hct
    have HEND20 : Hid (Below w.heap.size w w20) := nx (nx HEND15.out HB17.out) HW20.out
    cases ct with
    | some j =>
      go_wp2_with (go_at_call 45; refine HCUT2.out.mono ?_; rintro e w21 ⟨v21, rfl, ⟨A2, c2, rfl, hj, he, hc2⟩, hb21⟩; have HB21 : Hid (Below w20.heap.size w20 w21) := hb21; clear he hb21 hc2 hj)
      go_ret
      exact ⟨rfl, nx HEND20.out HB21.out⟩
    | none =>
    have hq := asked_none HZS.out HRM.out HSDE.out.symm HTHE.out.symm HCT2.out
    rw [← HKE.out] at hq
    obtain ⟨hq1, xx, hq2, hq3⟩ := hq
    obtain ⟨b', off', t', hA', _, _, hoc⟩ := rr_at (HA19.out.u) (k := 0) (r := xx) (by rw [hq2]; rfl)
    go_upto_region 18 with (go_at_call 45; refine HCUT2.out.mono ?_; rintro e w21 ⟨v21, rfl, rfl, hb21⟩; have HB21 : Hid (Below w20.heap.size w20 w21) := hb21; clear hb21)
    have y7 : w21.cell? ⟨kb, 7, none⟩ = some (.int .i64 3) := by rw [← hq1]; exact ((HK20.out.below HB21.out).cell 7).trans rfl
    have y10 : w21.cell? ⟨kb, 10, none⟩ = some (.slice (some ⟨b', off', none⟩) 1 s19.uc) := by
      have h1 : w21.cell? ⟨kb, 10, none⟩ = some (.slice s19.U Kk.au.length s19.uc) := ((HK20.out.below HB21.out).cell 10).trans rfl
      rw [hq2, hA'] at h1
      exact h1
    have k1 : w21.cell? ⟨b', off' + 1, none⟩ = some (.int .i64 6) := by
      have h1 := below_cell (nx HB20.out HB21.out) hoc.2.1
      rw [Nat.zero_mul, Nat.add_zero, hq3] at h1
      exact h1
    clear hq1 hq2 hq3 hA' hoc x0 x1' x2 x3
    go_wp2
    go_ret
    exact ⟨rfl, nx HEND20.out HB21.out⟩
theorem zoneAsked_walk (zA RA : Option Addr) (zn zc rn rc : Nat) (zs : List (List UInt8)) (rs : List RR) (x1 : Nat) (w : World) (h : RdE encRR w RA rn rs) (hz : RdE encS w zA zn zs) (hzc : zn ≤ zc ∧ zc ≤ maxLen) (hrc : rn ≤ rc ∧ rc ≤ maxLen) (hx : x1 < 256) :
    Calls Try.prog 11 #[.agg #[.slice zA zn zc, .slice RA rn rc], .int .u8 (x1 : Int)] w (LawT w) := by
  by_cases hL : LtZ zs rs
  · cases hso : zsoundB zs rs with
    | true => exact zZoneAsked_main zA RA zn zc rn rc zs rs x1 w h hz hzc hrc hx hL hso
    | false => exact zZoneAsked_unsound zA RA zn zc rn rc zs rs x1 w h hz hzc hrc hx hL hso
  · exact zZoneAsked_heavy zA RA zn zc rn rc zs rs x1 w h hz hzc hrc hx (ltZ_no hL)
end Go.Proofs.Ytimkdpkhdbiniaa
