/- Parts of a proof, joined: Zl2, Zpl, OpenZo. -/
import Derived.Test.YtimkdpkhdbiniaaZADZ10
import Derived.Test.YtimkdpkhdbiniaaZADM05
import Derived.Test.YtimkdpkhdbiniaaZADM03r
import Derived.Test.YtimkdpkhdbiniaaZADX7a
import Derived.Test.YtimkdpkhdbiniaaZADZ9
/- gazetteerlaw17.own (printed by gen/zl2.py). -/
namespace Go.Proofs.Ytimkdpkhdbiniaa
open Go.RowKit
set_option maxRecDepth 100000
set_option linter.unusedVariables false

theorem Lt17.light9 {r : RR} (h : Lt17 r) : Light9 r := by
  obtain ⟨h1, h2, h3, h4, h5, h6⟩ := h
  exact ⟨by omega, by omega, by omega, by omega, by omega, by omega⟩
theorem Lt17.lightR {r : RR} (h : Lt17 r) : LightR r := by
  obtain ⟨h1, h2, h3, h4, h5, h6⟩ := h
  exact ⟨⟨by omega, by omega, by omega, by omega, by omega⟩, by omega⟩
theorem Lt17.lt9 {r : RR} (h : Lt17 r) : Lt9 r := by
  obtain ⟨h1, h2, h3, h4, h5, h6⟩ := h
  exact ⟨by omega, by omega, by omega, by omega, by omega⟩
theorem elsS_in {So Si Si' : Nat → Prop} {w : World} {A : Option Addr} {n : Nat} {xs : List (List UInt8)} (h : Els encS So Si w A n xs) : Els encS So Si' w A n xs := ⟨h.1, fun hn => by
  obtain ⟨b, off, e, hb, hx⟩ := h.2 hn
  exact ⟨b, off, e, hb, hx⟩⟩
/-- A zone of one's own. -/
structure ZOwn (B : Nat) (w : World) (A : Option Addr) (n c : Nat) (R : Option Addr) (m k : Nat) (zs : List (List UInt8)) (rs : List RR) : Prop where
  z : Els encS (geS B w) (geS B w) w A n zs
  r : Els encRR (geS B w) (geS B w) w R m rs
  cz : n ≤ c ∧ c ≤ maxLen
  cr : m ≤ k ∧ k ≤ maxLen
set_option maxHeartbeats 8000000 in
theorem zownZ_any (zA RA : Option Addr) (zn zc rn rc : Nat) (zs : List (List UInt8)) (rs : List RR) (w : World) (h : RdE encRR w RA rn rs) (hz : RdE encS w zA zn zs) (hL : LtZ zs rs) :
    Calls Try.prog 43 #[.agg #[.slice zA zn zc, .slice RA rn rc]] w (RetP (fun v w' => ∃ A c R k, v = .agg #[.slice A zn c, .slice R rn k] ∧ ZOwn w.heap.size w' A zn c R rn k zs rs) w) := by
  have er := h.len
  subst er
  have ez := hz.len
  obtain ⟨w1, hw1⟩ : ∃ w1, w1 = w.alloc (.cells #[.slice zA zn zc, .slice RA rs.length rc] 75) := ⟨_, rfl⟩
  obtain ⟨w2, hw2⟩ : ∃ w2, w2 = w1.alloc (.cells #[.slice none 0 0, .slice none 0 0] 75) := ⟨_, rfl⟩
  obtain ⟨g, hg⟩ : ∃ g, g = w.heap.size := ⟨_, rfl⟩
  obtain ⟨g1, hg1⟩ : ∃ x, x = g + 1 := ⟨_, rfl⟩
  have hb1 : Below w.heap.size w w1 := by rw [hw1]; exact bl.alloc (Nat.le_refl _) _
  have hb2 : Below w1.heap.size w1 w2 := by rw [hw2]; exact bl.alloc (Nat.le_refl _) _
  have hs1 : w1.heap.size = g1 := by rw [hg1, hg, hw1]; simp
  have hs2 : w2.heap.size = g + 2 := by rw [hw2]; simp; omega
  have hS : w2.drew.cell? ⟨g, 0, none⟩ = some (.slice zA zn zc) ∧ w2.drew.cell? ⟨g, 1, none⟩ = some (.slice RA rs.length rc) := ⟨below_cell hb2 (by rw [hw1, hg]; exact new_cell w _ _ 0), below_cell hb2 (by rw [hw1, hg]; exact new_cell w _ _ 1)⟩
  have HG1 : Hid (w2.heap[g1]? = some (.cells #[.slice none 0 0, .slice none 0 0] 75 (0, 0))) := by show _ = _; rw [hw2, ← hs1]; exact heap_alloc_new w1 _
  have HB2 : Hid (Below w.heap.size w w2) := nx hb1 hb2
  have HS : Hid (g = w.heap.size ∧ g1 = g + 1 ∧ w2.heap.size = g + 2 ∧ zs.length = zn ∧ zn ≤ 130 ∧ rs.length ≤ 100) := ⟨hg, hg1, hs2, ez, by rw [← ez]; exact hL.z, hL.n⟩
  have HR := Lib.hid h
  have HZ := Lib.hid hz
  have HL := Lib.hid hL
  clear h hz hL ez hb1 hb2
  go_enter Try.func43, Try.ntmps43
  go_upto_region 1 with (fail)
  rw [← hw1]
  rw [← hw2]
  clear hw1 hw2
  rw [← hg]
  rw [← hg1]
  clear hg hg1 hs1 hs2
  refine wp_region_any (by kernel_rfl) ?_
  change wpAny _ _ _ _ _ _ _ (World.drew w2)
  refine wpAny_of_P (S := fun W => W.cell? ⟨g, 0, none⟩ = some (.slice zA zn zc) ∧ W.cell? ⟨g, 1, none⟩ = some (.slice RA rs.length rc)) (dem := fun _ => true) _ _ _ _ ?_
  refine wpAnyP_take (i := 1) (v := .pointer (some ⟨g, 0, none⟩)) rfl (by kernel_rfl) (by kernel_rfl) (by kernel_rfl) (by kernel_rfl) (by kernel_rfl) (fun _ _ _ h => h) (Or.inl ⟨by kernel_rfl, by (intro W hW; go_simp)⟩) hS ?_
  refine wpAnyP_take (i := 2) (v := .slice zA zn zc) rfl (by kernel_rfl) (by kernel_rfl) (by kernel_rfl) (by kernel_rfl) (by kernel_rfl) (fun _ _ _ h => h) (Or.inl ⟨by kernel_rfl, by (intro W hW; have c0 := hW.1; go_simp)⟩) hS ?_
  refine wpAnyP_take (i := 4) (v := .pointer (some ⟨g, 1, none⟩)) rfl (by kernel_rfl) (by kernel_rfl) (by kernel_rfl) (by kernel_rfl) (by kernel_rfl) (fun _ _ _ h => h) (Or.inl ⟨by kernel_rfl, by (intro W hW; go_simp)⟩) hS ?_
  refine wpAnyP_take (i := 5) (v := .slice RA rs.length rc) rfl (by kernel_rfl) (by kernel_rfl) (by kernel_rfl) (by kernel_rfl) (by kernel_rfl) (fun _ _ _ h => h) (Or.inl ⟨by kernel_rfl, by (intro W hW; have c0 := hW.2; go_simp)⟩) hS ?_
  obtain ⟨w3, hw3⟩ : ∃ u, u = w2.drew.alloc (.cells #[] 9) := ⟨_, rfl⟩
  obtain ⟨b3, hb3⟩ : ∃ b, b = w2.heap.size := ⟨_, rfl⟩
  have HB3 : Hid (Below w2.drew.heap.size w2.drew w3) := by show Below _ _ _; rw [hw3]; exact bl.alloc (Nat.le_refl _) _
  have HO3 : Hid (OwnE encS 9 noS w3 b3 (.slice (some ⟨b3, 0, none⟩) 0 0) []) := by show OwnE _ _ _ _ _ _ _; rw [hw3, hb3]; exact ownE_lit0 (w := w2.drew) (base := w2.drew.heap.size) (fun _ h => h.elim) (Nat.le_refl _)
  have HZ3 : Hid (RdE encS w3 zA zn zs) := (HZ.out.below HB2.out).below ((bl.drew : Below w2.heap.size w2 w2.drew).trans HB3.out)
  have HS3 : Hid (∀ b, ltS w b → b < w3.heap.size ∧ some b ≠ (Value.slice (some ⟨b3, 0, none⟩) 0 0).ownBlock) := fun b hb => ⟨Nat.lt_of_lt_of_le (Nat.lt_of_lt_of_le hb HB2.out.size) HB3.out.size, fun e => by
    have e2 : some b = some b3 := e
    injection e2 with e3
    have h1 := HB2.out.size
    have h2 : b < w.heap.size := hb
    omega⟩
  have HZE : Hid (Els encS (ltS w) (ltS w) w3 zA zn zs) := (HZ.out.keep (w' := w2) (fun b hb => HB2.out.block b hb) (fun b hb => HB2.out.block b hb)).keep (fun b hb => HB3.out.block b (Nat.lt_of_lt_of_le hb HB2.out.size)) (fun b hb => HB3.out.block b (Nat.lt_of_lt_of_le hb HB2.out.size))
  have HB3E := Lib.hid hb3
  have HW3 := Lib.hid hw3
  clear hw3 hb3
  refine wpAnyP_one (i := 0) rfl (by kernel_rfl) fun K hK => ?_
  go_simp
  refine hK _ (w2.drew.alloc (.cells #[] 9)) (fun _ => by rw [← HW3.out]; exact ⟨below_cell HB3.out hS.1, below_cell HB3.out hS.2⟩) ?_
  clear hK
  rw [← HW3.out]
  refine wpAnyP_one (i := 3) rfl (by kernel_rfl) fun K hK => ?_
  refine step_appE (w := w3) elS (by kernel_rfl) (.tmp 3) (.tmp 5) rfl b3 (.slice (some ⟨b3, 0, none⟩) 0 0) [] (by rw [HB3E.out]; rfl) HO3.out zA zn zc zs HZE.out HS3.out rfl (by have := HS.out; simp; omega) (by have := HS.out; unfold maxLen; simp; omega) (by rw [HB3E.out]; exact HB3.out.size) ?_
  intro v4 w4 hown4 hg4 hat4
  have hb4 : Below w2.drew.heap.size w2.drew w4 := Below.grown HB3.out hg4 HB3.out.size (fun k hk => by have := (OwnE.lt HO3.out k hk).1; rw [HB3E.out] at this; exact this)
  obtain ⟨A4, c4, hv4, he4, hl4, hm4⟩ := OwnE.form hown4
  have hlt4 := OwnE.lt hown4
  rw [List.nil_append] at hv4 he4 hl4
  rw [HZ3.out.len] at hv4 he4 hl4
  have HB4 := Lib.hid hb4
  have HE4 := Lib.hid he4
  have HC4 : Hid (zn ≤ c4 ∧ c4 ≤ maxLen) := ⟨hl4, hm4⟩
  have HT4 := Lib.hid hlt4
  have HV4 := Lib.hid hv4
  subst hv4
  have hS4 : w4.cell? ⟨g, 0, none⟩ = some (.slice zA zn zc) ∧ w4.cell? ⟨g, 1, none⟩ = some (.slice RA rs.length rc) := ⟨below_cell (w := w2.drew) hb4 hS.1, below_cell (w := w2.drew) hb4 hS.2⟩
  refine hK _ _ (fun _ => hS4) ?_
  clear hK hown4 hg4 hat4 hb4 he4 hl4 hm4 hlt4
  have HW4 : Hid (Below w.heap.size w w4) := HB2.out.trans (((bl.drew : Below w2.heap.size w2 w2.drew).trans HB4.out).mono HB2.out.size)
  refine wpAnyP_one (i := 6) rfl (by kernel_rfl) fun K hK => ?_
  go_simp
  refine (ownRRs_any RA rs.length rc rs w4 (HR.out.below HW4.out) (by have := HS.out; omega) (fun r hr => (HL.out.r r hr).light9)).mono ?_
  rintro e w5 ⟨v5, rfl, hn5, hb5⟩
  obtain ⟨A5, c5, hv5, he5, hl5, hm5⟩ := hn5.rd
  obtain ⟨rn, hrn⟩ : ∃ k, k = rs.length := ⟨_, rfl⟩
  have HRN := Lib.hid hrn
  rw [← hrn] at hv5 he5 hl5
  have HE5 := Lib.hid he5
  have HC5 : Hid (rn ≤ c5 ∧ c5 ≤ maxLen) := ⟨hl5, hm5⟩
  have HB5 := Lib.hid hb5
  subst hv5
  have hS5 : w5.cell? ⟨g, 0, none⟩ = some (.slice zA zn zc) ∧ w5.cell? ⟨g, 1, none⟩ = some (.slice RA rs.length rc) := ⟨below_cell hb5 hS4.1, below_cell hb5 hS4.2⟩
  refine hK _ _ (fun _ => hS5) ?_
  clear hK hn5 he5 hl5 hm5 hb5 hrn
  refine wpAnyP_one (i := 7) rfl (by kernel_rfl) fun K hK => ?_
  go_simp
  refine hK _ _ (fun _ => hS5) ?_
  clear hK
  have HG5 : Hid (w5.heap[g1]? = some (.cells #[.slice none 0 0, .slice none 0 0] 75 (0, 0))) := (HB5.out.block g1 (by have := HS.out; have h2 := HB4.out.size; have h3 : w2.drew.heap.size = w2.heap.size := rfl; omega)).trans ((HB4.out.block g1 (by have := HS.out; have h3 : w2.drew.heap.size = w2.heap.size := rfl; omega)).trans HG1.out)
  have k0 : w5.cell? ⟨g1, 0, none⟩ = some (.slice none 0 0) := (cell_of_row _ _ _ _ _ _ HG5.out).trans rfl
  have k1 : w5.cell? ⟨g1, 1, none⟩ = some (.slice none 0 0) := (cell_of_row _ _ _ _ _ _ HG5.out).trans rfl
  have f0 : w5.frozen? ⟨g1, 0, none⟩ = false := frozen_of_row _ _ _ _ _ HG5.out
  have f1 : w5.frozen? ⟨g1, 1, none⟩ = false := frozen_of_row _ _ _ _ _ HG5.out
  refine wpAnyP_one (i := 8) rfl (by kernel_rfl) fun K hK => ?_
  go_simp
  obtain ⟨w6, hw6⟩ : ∃ u, u = (w5.setCell ⟨g1, 0, none⟩ (.slice A4 zn c4)).setCell ⟨g1, 1, none⟩ (.slice A5 rn c5) := ⟨_, rfl⟩
  have HG6 : Hid (w6.heap[g1]? = some (.cells #[.slice A4 zn c4, .slice A5 rn c5] 75 (0, 0))) := by
    show _ = _
    rw [hw6]
    exact (heap_setCell_same _ _ 1 _ _ (.slice A5 rn c5) ((heap_setCell_same _ _ 0 _ _ (.slice A4 zn c4) HG5.out).trans rfl)).trans rfl
  have HC6 : Hid (Chg (fun k => k = g1) w5 w6) := by
    show Chg _ _ _
    rw [hw6]
    exact (chg_g1 _ _ _ _).trans (chg_g1 _ _ _ _) (fun z hz => .inl hz)
  refine hK _ ((w5.setCell ⟨g1, 0, none⟩ (.slice A4 zn c4)).setCell ⟨g1, 1, none⟩ (.slice A5 rn c5)) (fun h => absurd h (by rw [show needS _ _ _ = false from by kernel_rfl]; decide)) ?_
  clear hK k0 k1 f0 f1
  rw [← hw6]
  clear hw6
  refine wpAnyP_done (by kernel_rfl) ?_ _
  have l0 : w6.cell? ⟨g1, 0, none⟩ = some (.slice A4 zn c4) := (cell_of_row _ _ _ _ _ _ HG6.out).trans rfl
  have l1 : w6.cell? ⟨g1, 1, none⟩ = some (.slice A5 rn c5) := (cell_of_row _ _ _ _ _ _ HG6.out).trans rfl
  go_wp2
  refine bodyPost_ret (v := .agg #[.slice A4 zn c4, .slice A5 rn c5]) ?_ rfl ⟨_, rfl, ⟨A4, c4, A5, c5, ?_, ?_⟩, ?_⟩
  · simp [results, Try.results43, go_sem, l0, l1]
  · rw [← HRN.out]
  · have hS6 := HS.out
    have h3 : w2.drew.heap.size = w2.heap.size := rfl
    have h4 := HB4.out.size
    have h5 := HB5.out.size
    have h6 := HC6.out.size
    refine ⟨?_, ?_, HC4.out, by rw [← HRN.out]; exact HC5.out⟩
    · have k : ∀ b, b ≠ g1 → b < w4.heap.size → w6.heap[b]? = w4.heap[b]? := fun b hb hb2 => (HC6.out.block b (by omega) hb).trans (HB5.out.block b hb2)
      have ko : ∀ b, (Value.slice A4 zn c4).ownBlock = some b → b3 ≤ b ∧ b < w4.heap.size := HT4.out
      have hb3 := HB3E.out
      have k2 : ∀ b, (Value.slice A4 zn c4).ownBlock = some b → w6.heap[b]? = w4.heap[b]? := fun b hb => k b (by have := (ko b hb).1; omega) (ko b hb).2
      have h7 : Els encS (fun b => (Value.slice A4 zn c4).ownBlock = some b) noS w4 A4 zn zs := elsS_in HE4.out
      exact (h7.keep k2 (fun b hb => hb.elim)).mono (fun b hb => ⟨by have := (ko b hb).1; omega, by have := (ko b hb).2; omega⟩) (fun b hb => hb.elim)
    · have k2 : ∀ b, geS w4.heap.size w5 b → w6.heap[b]? = w5.heap[b]? := fun b hb => HC6.out.block b hb.2 (by have := hb.1; omega)
      rw [← HRN.out]
      exact (HE5.out.keep k2 k2).mono (fun b hb => ⟨by have := hb.1; omega, by have := hb.2; omega⟩) (fun b hb => ⟨by have := hb.1; omega, by have := hb.2; omega⟩)
  · have hS6 := HS.out
    exact (HW4.out.trans (HB5.out.mono HW4.out.size)).trans (HC6.out.below (fun x hx => by omega) (by have := HW4.out.size; have := HB5.out.size; omega))
end Go.Proofs.Ytimkdpkhdbiniaa

/- What Zone.fill's answer is made of, in plain Lean. -/
namespace Go.Proofs.Ytimkdpkhdbiniaa
open Go.RowKit
set_option maxRecDepth 100000
set_option linter.unusedVariables false

theorem ofP_mem {rs : List RR} {n : List (List UInt8)} {k : Int} {r : RR} (h : r ∈ ofP rs n k) : r ∈ rs := (List.mem_filter.1 h).1
theorem exP_mem {au rs : List RR} {r : RR} (h : r ∈ exP au rs) : r ∈ rs := (List.mem_filter.1 h).1
theorem ofP_le (rs : List RR) (n : List (List UInt8)) (k : Int) : (ofP rs n k).length ≤ rs.length := List.length_filter_le _ _
theorem exP_le (au rs : List RR) : (exP au rs).length ≤ rs.length := List.length_filter_le _ _
/-- A message whose records are a zone's, not too many. -/
structure Made (rs : List RR) (k : Nat) (m : Ms) : Prop where
  a : ∀ r ∈ m.an, r ∈ rs
  u : ∀ r ∈ m.au, r ∈ rs
  x : ∀ r ∈ m.ex, r ∈ rs
  la : m.an.length ≤ k
  lu : m.au.length ≤ rs.length
  lx : m.ex.length ≤ rs.length
theorem fillP_made (zs : List (List UInt8)) (rs : List RR) (ty : Int) : ∀ (f : Nat) (n : List (List UInt8)) (seen : List (List (List UInt8))) (m : Ms) (k : Nat), Made rs k m → m.ex = [] → Made rs (k + f + rs.length) (fillP zs rs ty f n seen m)
  | 0, n, seen, m, k, h, he => ⟨h.a, h.u, h.x, Nat.le_trans h.la (by omega), h.lu, h.lx⟩
  | f + 1, n, seen, m, k, h, he => by
    have hla := h.la
    rw [fillP]
    split
    · exact ⟨h.a, fun r hr => ofP_mem hr, fun r hr => by
        rcases List.mem_append.1 hr with e | e
        · rw [he] at e; cases e
        · exact exP_mem e, Nat.le_trans h.la (by omega), ofP_le _ _ _, by
        show (m.ex ++ exP _ rs).length ≤ _
        rw [he]; exact exP_le _ _⟩
    · split
      · exact ⟨fun r hr => (List.mem_append.1 hr).elim (h.a r) (fun e => ofP_mem e), h.u, h.x, by
          show (m.an ++ _).length ≤ _
          rw [List.length_append]
          have := ofP_le rs n ty
          omega, h.lu, h.lx⟩
      · split
        · exact ⟨h.a, fun r hr => ofP_mem hr, h.x, Nat.le_trans h.la (by omega), ofP_le _ _ _, h.lx⟩
        · rename_i c cs hc
          have hcm : c ∈ rs := ofP_mem (by rw [hc]; exact List.mem_cons_self)
          have h2 : Made rs (k + 1) { m with an := m.an ++ [c] } := ⟨fun r hr => (List.mem_append.1 hr).elim (h.a r) (fun e => by rw [List.mem_singleton.1 e]; exact hcm), h.u, h.x, by show (m.an ++ [c]).length ≤ _; rw [List.length_append, List.length_singleton]; omega, h.lu, h.lx⟩
          split
          · exact ⟨h2.a, h2.u, h2.x, Nat.le_trans h2.la (by omega), h2.lu, h2.lx⟩
          · have h3 := fillP_made zs rs ty f c.data.host (seen ++ [c.data.host]) { m with an := m.an ++ [c] } (k + 1) h2 he
            exact ⟨h3.a, h3.u, h3.x, Nat.le_trans h3.la (by omega), h3.lu, h3.lx⟩
theorem answerP_made (zs : List (List UInt8)) (rs : List RR) (q : Qu) : Made rs (2 * rs.length + 1) (answerP zs rs q) := by
  have h0 : ∀ (b : Bool) (c : Int), Made rs 0 { msBase q with aa := b, rcode := c } := fun b c => ⟨fun r hr => (by cases hr), fun r hr => (by cases hr), fun r hr => (by cases hr), Nat.le_refl _, Nat.zero_le _, Nat.zero_le _⟩
  unfold answerP
  split
  · have h := fillP_made zs rs q.type (rs.length + 1) q.name [q.name] { msBase q with aa := true } 0 (h0 true 0) rfl
    exact ⟨h.a, h.u, h.x, Nat.le_trans h.la (by omega), h.lu, h.lx⟩
  · have h := h0 false 5
    exact ⟨h.a, h.u, h.x, Nat.le_trans h.la (by omega), h.lu, h.lx⟩
end Go.Proofs.Ytimkdpkhdbiniaa

/- Opening a zone that came in. -/
namespace Go.Proofs.Ytimkdpkhdbiniaa
open Go.ChangeShapes Go.WideShapes Go.ChangeAt Go.RowKit
set_option maxRecDepth 100000

theorem len2z {α : Type} {l : List α} (h : l.length = 2) : ∃ a b, l = [a, b] := by
  match l, h with
  | [a, b], _ => exact ⟨a, b, rfl⟩
theorem open_zo {H : Type} {enc : TypeId × Value → H} {W : World} {base b0 : Nat} {sp : Nat → Bool} {hd : Bool} {r : Reach} {v : Value} {d : DataW H} {p : List MemPlace}
    (hv : Value.okWide Try.prog W r b0 75 v) (h : DataW.Trod enc Try.prog W base sp hd 75 v d p) : ∃ A n c R m k zs rs, v = .agg #[.slice A n c, .slice R m k] ∧ RdE encS W A n zs ∧ RdE encRR W R m rs ∧ (n ≤ c ∧ c ≤ maxLen) ∧ (m ≤ k ∧ k ≤ maxLen) := by
  obtain ⟨cs, rfl, hsz⟩ := okWide_struct Try.underlying75 hv
  rw [show Try.prog.cellsOf 75 = 2 by kernel_rfl] at hsz
  obtain ⟨l⟩ := cs
  obtain ⟨c0, c1, rfl⟩ := len2z (l := l) (by simpa using hsz)
  obtain ⟨fuel, hf⟩ := h
  have hf' : DataW.trod enc Try.prog W base sp hd fuel 75 [c0, c1] = some (d, p) := by simpa [Value.cells] using hf
  obtain ⟨xs, n, hx, hc, hl, hfd, hw⟩ := trod_fields Try.underlying75 hf'
  obtain ⟨y0, e0, h0⟩ := hfd 0 _ rfl
  obtain ⟨y1, e1, h1⟩ := hfd 1 _ rfl
  have g0 : DataW.trod enc Try.prog W base sp hd n 23 (([c0, c1].drop 0).take (Try.prog.cellsOf 23)) = some y0 := h0
  have g1 : DataW.trod enc Try.prog W base sp hd n 29 (([c0, c1].drop 1).take (Try.prog.cellsOf 29)) = some y1 := h1
  rw [show Try.prog.cellsOf 23 = 1 by kernel_rfl] at g0
  rw [show Try.prog.cellsOf 29 = 1 by kernel_rfl] at g1
  obtain ⟨a0, ⟨A0, n0, k0, r0, q0, l0, m0⟩, _, _⟩ := opens_sl (t := 23) Try.underlying23 (by kernel_rfl) (opens_str Try.underlying9) H enc W base sp hd n _ _ g0
  obtain ⟨a1, ⟨A1, n1, k1, r1, q1, l1, m1⟩, _, _⟩ := opens_sl (t := 29) Try.underlying29 (by kernel_rfl) opens_RR H enc W base sp hd n _ _ g1
  simp at r0 r1
  subst r0 r1
  exact ⟨A0, n0, k0, A1, n1, k1, a0, a1, rfl, q0, q1, ⟨l0, m0⟩, ⟨l1, m1⟩⟩
end Go.Proofs.Ytimkdpkhdbiniaa
