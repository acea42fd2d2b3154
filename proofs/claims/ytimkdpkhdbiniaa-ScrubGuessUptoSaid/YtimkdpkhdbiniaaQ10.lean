/- Parts of a proof, joined: OpenBig, MsNil, LawT, Scrub2, Ans18. -/
import Derived.Test.YtimkdpkhdbiniaaQ04
import Derived.Test.YtimkdpkhdbiniaaQ09
import Derived.Test.YtimkdpkhdbiniaaQ01
/- Messages that came in, with the lengths of all their records' lists. -/
namespace Go.Proofs.Ytimkdpkhdbiniaa
open Go.ChangeShapes Go.WideShapes Go.ChangeAt Go.RowKit
set_option maxRecDepth 100000

def lensD (x : Da) : Nat := max (max (max (max x.bytes.length x.host.length) x.mail.length) x.nums.length) x.texts.length
def wtDa5 (x : Da) : Nat := lensD x + 1
theorem opens_Da25 : Opens 46 encDa any wtDa5 := by
  intro H enc W base sp hd fuel cs x h
  obtain ⟨xs, n, hx, hc, hl, hfd, hw⟩ := trod_fields Try.underlying46 h
  rw [show Try.prog.cellsOf 46 = 5 by kernel_rfl] at hc
  obtain ⟨c0, c1, c2, c3, c4, rfl⟩ := len5 hc
  obtain ⟨y0, e0, h0⟩ := hfd 0 _ rfl
  obtain ⟨y1, e1, h1⟩ := hfd 1 _ rfl
  obtain ⟨y2, e2, h2⟩ := hfd 2 _ rfl
  obtain ⟨y3, e3, h3⟩ := hfd 3 _ rfl
  obtain ⟨y4, e4, h4⟩ := hfd 4 _ rfl
  have g0 : DataW.trod enc Try.prog W base sp hd n 22 (([c0, c1, c2, c3, c4].drop 0).take (Try.prog.cellsOf 22)) = some y0 := h0
  have g1 : DataW.trod enc Try.prog W base sp hd n 23 (([c0, c1, c2, c3, c4].drop 1).take (Try.prog.cellsOf 23)) = some y1 := h1
  have g2 : DataW.trod enc Try.prog W base sp hd n 23 (([c0, c1, c2, c3, c4].drop 2).take (Try.prog.cellsOf 23)) = some y2 := h2
  have g3 : DataW.trod enc Try.prog W base sp hd n 44 (([c0, c1, c2, c3, c4].drop 3).take (Try.prog.cellsOf 44)) = some y3 := h3
  have g4 : DataW.trod enc Try.prog W base sp hd n 23 (([c0, c1, c2, c3, c4].drop 4).take (Try.prog.cellsOf 23)) = some y4 := h4
  rw [show Try.prog.cellsOf 44 = 1 by kernel_rfl] at g3
  rw [show Try.prog.cellsOf 23 = 1 by kernel_rfl] at g1 g2 g4
  rw [show Try.prog.cellsOf 22 = 1 by kernel_rfl] at g0
  obtain ⟨a0, ⟨A0, n0, k0, r0, q0, l0, m0⟩, f0, w0⟩ := opens_sl (t := 22) Try.underlying22 (by kernel_rfl) (opens_u8 Try.underlying5) H enc W base sp hd n _ _ g0
  obtain ⟨a1, ⟨A1, n1, k1, r1, q1, l1, m1⟩, f1, w1⟩ := opens_sl (t := 23) Try.underlying23 (by kernel_rfl) (opens_str Try.underlying9) H enc W base sp hd n _ _ g1
  obtain ⟨a2, ⟨A2, n2, k2, r2, q2, l2, m2⟩, f2, w2⟩ := opens_sl (t := 23) Try.underlying23 (by kernel_rfl) (opens_str Try.underlying9) H enc W base sp hd n _ _ g2
  obtain ⟨a3, ⟨A3, n3, k3, r3, q3, l3, m3⟩, f3, w3⟩ := opens_sl (t := 44) Try.underlying44 (by kernel_rfl) (opens_int Try.underlying3) H enc W base sp hd n _ _ g3
  obtain ⟨a4, ⟨A4, n4, k4, r4, q4, l4, m4⟩, f4, w4⟩ := opens_sl (t := 23) Try.underlying23 (by kernel_rfl) (opens_str Try.underlying9) H enc W base sp hd n _ _ g4
  have u0 := field_bulk hx e0
  have v0 := wtL_length (wt := one) (fun _ => Nat.le_refl _) a0
  have u1 := field_bulk hx e1
  have v1 := wtL_length (wt := fun l : List UInt8 => l.length + 1) (fun l => Nat.le_add_left 1 l.length) a1
  have u2 := field_bulk hx e2
  have v2 := wtL_length (wt := fun l : List UInt8 => l.length + 1) (fun l => Nat.le_add_left 1 l.length) a2
  have u3 := field_bulk hx e3
  have v3 := wtL_length (wt := one) (fun _ => Nat.le_refl _) a3
  have u4 := field_bulk hx e4
  have v4 := wtL_length (wt := fun l : List UInt8 => l.length + 1) (fun l => Nat.le_add_left 1 l.length) a4
  simp at r0 r1 r2 r3 r4
  have e0 := q0.1
  have e1 := q1.1
  have e2 := q2.1
  have e3 := q3.1
  have e4 := q4.1
  subst r0 r1 r2 r3 r4 e0 e1 e2 e3 e4
  refine ⟨⟨a0, a1, a2, a3, a4⟩, ⟨⟨A0, A1, A2, A3, A4, k0, k1, k2, k3, k4⟩, rfl, ⟨q0, q1, q2, q3, q4, ⟨l0, m0⟩, ⟨l1, m1⟩, ⟨l2, m2⟩, ⟨l3, m3⟩, ⟨l4, m4⟩⟩⟩, fun _ => trivial, ?_⟩
  show max (max (max (max a0.length a1.length) a2.length) a3.length) a4.length + 1 ≤ _
  omega
def wtRR5 (x : RR) : Nat := max x.name.length (lensD x.data) + 1
theorem opens_RR25 : Opens 84 encRR any wtRR5 := by
  intro H enc W base sp hd fuel cs x h
  obtain ⟨xs, n, hx, hc, hl, hfd, hw⟩ := trod_fields Try.underlying84 h
  rw [show Try.prog.cellsOf 84 = 9 by kernel_rfl] at hc
  obtain ⟨c0, c1, c2, c3, c4, c5, c6, c7, c8, rfl⟩ := len9 hc
  obtain ⟨y0, e0, h0⟩ := hfd 0 _ rfl
  obtain ⟨y1, e1, h1⟩ := hfd 1 _ rfl
  obtain ⟨y2, e2, h2⟩ := hfd 2 _ rfl
  obtain ⟨y3, e3, h3⟩ := hfd 3 _ rfl
  obtain ⟨y4, e4, h4⟩ := hfd 4 _ rfl
  have g0 : DataW.trod enc Try.prog W base sp hd n 23 (([c0, c1, c2, c3, c4, c5, c6, c7, c8].drop 0).take (Try.prog.cellsOf 23)) = some y0 := h0
  have g1 : DataW.trod enc Try.prog W base sp hd n 3 (([c0, c1, c2, c3, c4, c5, c6, c7, c8].drop 1).take (Try.prog.cellsOf 3)) = some y1 := h1
  have g2 : DataW.trod enc Try.prog W base sp hd n 3 (([c0, c1, c2, c3, c4, c5, c6, c7, c8].drop 2).take (Try.prog.cellsOf 3)) = some y2 := h2
  have g3 : DataW.trod enc Try.prog W base sp hd n 3 (([c0, c1, c2, c3, c4, c5, c6, c7, c8].drop 3).take (Try.prog.cellsOf 3)) = some y3 := h3
  have g4 : DataW.trod enc Try.prog W base sp hd n 46 (([c0, c1, c2, c3, c4, c5, c6, c7, c8].drop 4).take (Try.prog.cellsOf 46)) = some y4 := h4
  rw [show Try.prog.cellsOf 46 = 5 by kernel_rfl] at g4
  rw [show Try.prog.cellsOf 3 = 1 by kernel_rfl] at g1 g2 g3
  rw [show Try.prog.cellsOf 23 = 1 by kernel_rfl] at g0
  obtain ⟨a0, ⟨A0, n0, k0, r0, q0, l0, m0⟩, f0, w0⟩ := opens_sl (t := 23) Try.underlying23 (by kernel_rfl) (opens_str Try.underlying9) H enc W base sp hd n _ _ g0
  obtain ⟨a1, ⟨r1, b1⟩, f1, w1⟩ := opens_int Try.underlying3 H enc W base sp hd n _ _ g1
  obtain ⟨a2, ⟨r2, b2⟩, f2, w2⟩ := opens_int Try.underlying3 H enc W base sp hd n _ _ g2
  obtain ⟨a3, ⟨r3, b3⟩, f3, w3⟩ := opens_int Try.underlying3 H enc W base sp hd n _ _ g3
  obtain ⟨a4, ⟨s4, r4, q4⟩, f4, w4⟩ := opens_Da25 H enc W base sp hd n _ _ g4
  have u4 := field_bulk hx e4
  have u0 := field_bulk hx e0
  have v0 := wtL_length (wt := fun l : List UInt8 => l.length + 1) (fun l => Nat.le_add_left 1 l.length) a0
  simp [dCells] at r0 r1 r2 r3 r4
  obtain ⟨r4, r5, r6, r7, r8⟩ := r4
  have e0 := q0.1
  subst r0 r1 r2 r3 r4 r5 r6 r7 r8 e0
  refine ⟨⟨a0, a1, a2, a3, a4⟩, ⟨⟨A0, k0, s4⟩, rfl, ⟨q0, ⟨l0, m0⟩, q4, b1, b2, b3⟩⟩, fun _ => trivial, ?_⟩
  show max a0.length (lensD a4) + 1 ≤ _
  have w4' : lensD a4 + 1 ≤ Rows.uptoBulk y4.1 := w4
  omega
/-- How large a message is that came in. -/
structure MBig5 (m : Ms) (B : Nat) : Prop where
  q : m.qs.length ≤ B
  a : m.an.length ≤ B
  u : m.au.length ≤ B
  x : m.ex.length ≤ B
  b : ∀ r ∈ m.an ++ m.au ++ m.ex, r.name.length ≤ B ∧ lensD r.data ≤ B
theorem rr_sized5 {l : List RR} {H : Type} {d : DataW H} (h : wtL wtRR5 l ≤ Rows.uptoBulk d) : l.length ≤ Rows.uptoBulk d ∧ ∀ r ∈ l, r.name.length ≤ Rows.uptoBulk d ∧ lensD r.data ≤ Rows.uptoBulk d := by
  have h1 := wtL_length (wt := wtRR5) (fun _ => Nat.le_add_left _ _) l
  refine ⟨by omega, fun r hr => ?_⟩
  have h2 := wtL_mem (wt := wtRR5) hr
  unfold wtRR5 at h2 h
  exact ⟨by omega, by omega⟩
theorem open_ms5 {H : Type} {enc : TypeId × Value → H} {W : World} {base b0 : Nat} {sp : Nat → Bool} {hd : Bool} {r : Reach} {v : Value} {d : DataW H} {p : List MemPlace}
    (hv : Value.okWide Try.prog W r b0 31 v) (h : DataW.Trod enc Try.prog W base sp hd 31 v d p) : ∃ s m, v = msV s m ∧ MIn (ltS W) W s m ∧ MBig5 m (Rows.uptoBulk d) := by
  obtain ⟨cs, rfl, hsz⟩ := okWide_struct Try.underlying31 hv
  rw [show Try.prog.cellsOf 31 = 14 by kernel_rfl] at hsz
  obtain ⟨l⟩ := cs
  obtain ⟨c0, c1, c2, c3, c4, c5, c6, c7, c8, c9, c10, c11, c12, c13, rfl⟩ := len14 (l := l) (by simpa using hsz)
  obtain ⟨fuel, hf⟩ := h
  have hf' : DataW.trod enc Try.prog W base sp hd fuel 31 [c0, c1, c2, c3, c4, c5, c6, c7, c8, c9, c10, c11, c12, c13] = some (d, p) := by simpa [Value.cells] using hf
  obtain ⟨xs, n, hx, hc, hl, hfd, hw⟩ := trod_fields Try.underlying31 hf'
  obtain ⟨y0, e0, h0⟩ := hfd 0 _ rfl
  obtain ⟨y1, e1, h1⟩ := hfd 1 _ rfl
  obtain ⟨y2, e2, h2⟩ := hfd 2 _ rfl
  obtain ⟨y3, e3, h3⟩ := hfd 3 _ rfl
  obtain ⟨y4, e4, h4⟩ := hfd 4 _ rfl
  obtain ⟨y5, e5, h5⟩ := hfd 5 _ rfl
  obtain ⟨y6, e6, h6⟩ := hfd 6 _ rfl
  obtain ⟨y7, e7, h7⟩ := hfd 7 _ rfl
  obtain ⟨y8, e8, h8⟩ := hfd 8 _ rfl
  obtain ⟨y9, e9, h9⟩ := hfd 9 _ rfl
  obtain ⟨y10, e10, h10⟩ := hfd 10 _ rfl
  obtain ⟨y11, e11, h11⟩ := hfd 11 _ rfl
  obtain ⟨y12, e12, h12⟩ := hfd 12 _ rfl
  obtain ⟨y13, e13, h13⟩ := hfd 13 _ rfl
  have g0 : DataW.trod enc Try.prog W base sp hd n 3 (([c0, c1, c2, c3, c4, c5, c6, c7, c8, c9, c10, c11, c12, c13].drop 0).take (Try.prog.cellsOf 3)) = some y0 := h0
  have g1 : DataW.trod enc Try.prog W base sp hd n 4 (([c0, c1, c2, c3, c4, c5, c6, c7, c8, c9, c10, c11, c12, c13].drop 1).take (Try.prog.cellsOf 4)) = some y1 := h1
  have g2 : DataW.trod enc Try.prog W base sp hd n 3 (([c0, c1, c2, c3, c4, c5, c6, c7, c8, c9, c10, c11, c12, c13].drop 2).take (Try.prog.cellsOf 3)) = some y2 := h2
  have g3 : DataW.trod enc Try.prog W base sp hd n 4 (([c0, c1, c2, c3, c4, c5, c6, c7, c8, c9, c10, c11, c12, c13].drop 3).take (Try.prog.cellsOf 4)) = some y3 := h3
  have g4 : DataW.trod enc Try.prog W base sp hd n 4 (([c0, c1, c2, c3, c4, c5, c6, c7, c8, c9, c10, c11, c12, c13].drop 4).take (Try.prog.cellsOf 4)) = some y4 := h4
  have g5 : DataW.trod enc Try.prog W base sp hd n 4 (([c0, c1, c2, c3, c4, c5, c6, c7, c8, c9, c10, c11, c12, c13].drop 5).take (Try.prog.cellsOf 4)) = some y5 := h5
  have g6 : DataW.trod enc Try.prog W base sp hd n 4 (([c0, c1, c2, c3, c4, c5, c6, c7, c8, c9, c10, c11, c12, c13].drop 6).take (Try.prog.cellsOf 4)) = some y6 := h6
  have g7 : DataW.trod enc Try.prog W base sp hd n 3 (([c0, c1, c2, c3, c4, c5, c6, c7, c8, c9, c10, c11, c12, c13].drop 7).take (Try.prog.cellsOf 3)) = some y7 := h7
  have g8 : DataW.trod enc Try.prog W base sp hd n 28 (([c0, c1, c2, c3, c4, c5, c6, c7, c8, c9, c10, c11, c12, c13].drop 8).take (Try.prog.cellsOf 28)) = some y8 := h8
  have g9 : DataW.trod enc Try.prog W base sp hd n 29 (([c0, c1, c2, c3, c4, c5, c6, c7, c8, c9, c10, c11, c12, c13].drop 9).take (Try.prog.cellsOf 29)) = some y9 := h9
  have g10 : DataW.trod enc Try.prog W base sp hd n 29 (([c0, c1, c2, c3, c4, c5, c6, c7, c8, c9, c10, c11, c12, c13].drop 10).take (Try.prog.cellsOf 29)) = some y10 := h10
  have g11 : DataW.trod enc Try.prog W base sp hd n 29 (([c0, c1, c2, c3, c4, c5, c6, c7, c8, c9, c10, c11, c12, c13].drop 11).take (Try.prog.cellsOf 29)) = some y11 := h11
  have g12 : DataW.trod enc Try.prog W base sp hd n 4 (([c0, c1, c2, c3, c4, c5, c6, c7, c8, c9, c10, c11, c12, c13].drop 12).take (Try.prog.cellsOf 4)) = some y12 := h12
  have g13 : DataW.trod enc Try.prog W base sp hd n 3 (([c0, c1, c2, c3, c4, c5, c6, c7, c8, c9, c10, c11, c12, c13].drop 13).take (Try.prog.cellsOf 3)) = some y13 := h13
  rw [show Try.prog.cellsOf 4 = 1 by kernel_rfl] at g1 g3 g4 g5 g6 g12
  rw [show Try.prog.cellsOf 3 = 1 by kernel_rfl] at g0 g2 g7 g13
  rw [show Try.prog.cellsOf 28 = 1 by kernel_rfl] at g8
  rw [show Try.prog.cellsOf 29 = 1 by kernel_rfl] at g9 g10 g11
  obtain ⟨a0, ⟨r0, b0⟩, f0, w0⟩ := opens_int Try.underlying3 H enc W base sp hd n _ _ g0
  obtain ⟨a1, ⟨r1, b1⟩, f1, w1⟩ := opens_bool Try.underlying4 H enc W base sp hd n _ _ g1
  obtain ⟨a2, ⟨r2, b2⟩, f2, w2⟩ := opens_int Try.underlying3 H enc W base sp hd n _ _ g2
  obtain ⟨a3, ⟨r3, b3⟩, f3, w3⟩ := opens_bool Try.underlying4 H enc W base sp hd n _ _ g3
  obtain ⟨a4, ⟨r4, b4⟩, f4, w4⟩ := opens_bool Try.underlying4 H enc W base sp hd n _ _ g4
  obtain ⟨a5, ⟨r5, b5⟩, f5, w5⟩ := opens_bool Try.underlying4 H enc W base sp hd n _ _ g5
  obtain ⟨a6, ⟨r6, b6⟩, f6, w6⟩ := opens_bool Try.underlying4 H enc W base sp hd n _ _ g6
  obtain ⟨a7, ⟨r7, b7⟩, f7, w7⟩ := opens_int Try.underlying3 H enc W base sp hd n _ _ g7
  obtain ⟨a8, ⟨A8, n8, k8, r8, q8, l8, m8⟩, f8, w8⟩ := opens_sl (t := 28) Try.underlying28 (by kernel_rfl) opens_Qu H enc W base sp hd n _ _ g8
  obtain ⟨a9, ⟨A9, n9, k9, r9, q9, l9, m9⟩, f9, w9⟩ := opens_sl (t := 29) Try.underlying29 (by kernel_rfl) opens_RR25 H enc W base sp hd n _ _ g9
  obtain ⟨a10, ⟨A10, n10, k10, r10, q10, l10, m10⟩, f10, w10⟩ := opens_sl (t := 29) Try.underlying29 (by kernel_rfl) opens_RR25 H enc W base sp hd n _ _ g10
  obtain ⟨a11, ⟨A11, n11, k11, r11, q11, l11, m11⟩, f11, w11⟩ := opens_sl (t := 29) Try.underlying29 (by kernel_rfl) opens_RR25 H enc W base sp hd n _ _ g11
  obtain ⟨a12, ⟨r12, b12⟩, f12, w12⟩ := opens_bool Try.underlying4 H enc W base sp hd n _ _ g12
  obtain ⟨a13, ⟨r13, b13⟩, f13, w13⟩ := opens_int Try.underlying3 H enc W base sp hd n _ _ g13
  have u8 := field_bulk hx e8
  have u9 := field_bulk hx e9
  have u10 := field_bulk hx e10
  have u11 := field_bulk hx e11
  change _ ≤ Rows.uptoBulk d at u8 u9 u10 u11
  have v8 := wtL_length (wt := one) (fun _ => Nat.le_refl _) a8
  obtain ⟨v9, x9⟩ := rr_sized5 w9
  obtain ⟨v10, x10⟩ := rr_sized5 w10
  obtain ⟨v11, x11⟩ := rr_sized5 w11
  simp at r0 r1 r2 r3 r4 r5 r6 r7 r8 r9 r10 r11 r12 r13
  have e8 := q8.1
  have e9 := q9.1
  have e10 := q10.1
  have e11 := q11.1
  subst r0 r1 r2 r3 r4 r5 r6 r7 r8 r9 r10 r11 r12 r13 e8 e9 e10 e11
  refine ⟨⟨A8, k8, A9, k9, A10, k10, A11, k11⟩, ⟨a0, a1, a2, a3, a4, a5, a6, a7, a8, a9, a10, a11, a12, a13⟩, rfl, ⟨q8, q9, q10, q11, ⟨l8, m8⟩, ⟨l9, m9⟩, ⟨l10, m10⟩, ⟨l11, m11⟩, b0, b2, b7, b13⟩, ⟨?_, ?_, ?_, ?_, fun z hz => ?_⟩⟩
  · show a8.length ≤ Rows.uptoBulk d; omega
  · show a9.length ≤ Rows.uptoBulk d; omega
  · show a10.length ≤ Rows.uptoBulk d; omega
  · show a11.length ≤ Rows.uptoBulk d; omega
  · rcases List.mem_append.1 hz with hz | hz
    · rcases List.mem_append.1 hz with hz | hz
      · have := x9 z hz; exact ⟨by omega, by omega⟩
      · have := x10 z hz; exact ⟨by omega, by omega⟩
    · have := x11 z hz; exact ⟨by omega, by omega⟩
end Go.Proofs.Ytimkdpkhdbiniaa

/- A message with nothing in it, in memory. -/
namespace Go.Proofs.Ytimkdpkhdbiniaa
open Go.RowKit
set_option maxRecDepth 100000

theorem LtM.short {m : Ms} (h : m.qs = []) (h1 : m.an = []) (h2 : m.au = []) (h3 : m.ex = []) : LtM m := by
  have hs : ∀ j, secL m j = [] := fun j => by match j with | 0 => exact h1 | 1 => exact h2 | n + 2 => exact h3
  exact ⟨by rw [h]; decide, fun j => by rw [hs j]; decide, fun x hx => (by rw [h] at hx; cases hx), fun j x hx => (by rw [hs j] at hx; cases hx)⟩
theorem MIn.short {w : World} {m : Ms} (h : m.qs = []) (h1 : m.an = []) (h2 : m.au = []) (h3 : m.ex = []) (ii : i64S m.id) (io : i64S m.op) (ir : i64S m.rcode) (is : i64S m.size) : MIn noS w MS.nil m :=
  ⟨by rw [h]; exact Els.nil _ _ _ _ _, by rw [h1]; exact Els.nil _ _ _ _ _, by rw [h2]; exact Els.nil _ _ _ _ _, by rw [h3]; exact Els.nil _ _ _ _ _, by rw [h]; exact ⟨Nat.le_refl _, by decide⟩, by rw [h1]; exact ⟨Nat.le_refl _, by decide⟩, by rw [h2]; exact ⟨Nat.le_refl _, by decide⟩, by rw [h3]; exact ⟨Nat.le_refl _, by decide⟩, ii, io, ir, is⟩
end Go.Proofs.Ytimkdpkhdbiniaa

/- What each law's walk ends with. -/
namespace Go.Proofs.Ytimkdpkhdbiniaa
open Go.RowKit

/-- The law returns true, and what was there is as it was. -/
def LawT (w : World) (e : Ending) (w' : World) : Prop := e = .returned (.bool true) ∧ Below w.heap.size w w'
end Go.Proofs.Ytimkdpkhdbiniaa

/- scrub.Query and the reference's: which datagram a question is. -/
namespace Go.Proofs.Ytimkdpkhdbiniaa
open Go.RowKit
set_option maxRecDepth 100000

/-- The message that asks. -/
def qryM (o : Ou) : Ms := ⟨o.id, false, 0, false, false, false, false, 0, [o.q], [], [], [], true, 1232⟩
structure OkO (o : Ou) : Prop where
  a : o.addr.length = 4
  p : fitsB o.port 2 = true
  e : (encP (qryM o)).2 = 0
theorem i64_0 : i64S 0 := ⟨by decide, by decide⟩
theorem qry_in {S : Nat → Prop} {w : World} {s : QS} {o : Ou} (h : QIn S w s o.q) (hS : ∀ b, S b → b < w.heap.size) (ii : i64S o.id) : MIn (ltS (w.alloc (.cells (qCells s o.q) 25))) (w.alloc (.cells (qCells s o.q) 25)) ⟨some ⟨w.heap.size, 0, none⟩, 1, none, 0, none, 0, none, 0⟩ (qryM o) :=
  ⟨one_qu h hS, Els.nil _ _ _ _ _, Els.nil _ _ _ _ _, Els.nil _ _ _ _ _, ⟨Nat.le_refl _, show (1 : Nat) ≤ maxLen by decide⟩, ⟨Nat.le_refl _, Nat.zero_le _⟩, ⟨Nat.le_refl _, Nat.zero_le _⟩, ⟨Nat.le_refl _, Nat.zero_le _⟩, ii, i64_0, i64_0, ⟨show (-9223372036854775808 : Int) ≤ 1232 by decide, show (1232 : Int) ≤ 9223372036854775807 by decide⟩⟩
theorem qry_lt {o : Ou} (h : o.q.name.length ≤ 1000000000) : LtM (qryM o) := by
  have hs : ∀ j, secL (qryM o) j = [] := fun j => by match j with | 0 => rfl | 1 => rfl | n + 2 => rfl
  exact ⟨by show 1 ≤ _; decide, fun j => by rw [hs j]; decide, fun x hx => (by rw [show x = o.q from List.mem_singleton.1 hx]; exact h), fun j x hx => (by rw [hs j] at hx; cases hx)⟩
theorem qry_bytes (o : Ou) : bytesM (qryM o) ≤ 200000 := by show 0 ≤ _; omega
def put3 (w : World) (q : Nat) (v0 v1 v2 : Value) : World := ((w.setCell ⟨q, 0, none⟩ v0).setCell ⟨q, 1, none⟩ v1).setCell ⟨q, 2, none⟩ v2
theorem set3 {w : World} {q : Nat} {t : TypeId} {a0 a1 a2 : Value} (h : w.heap[q]? = some (.cells #[a0, a1, a2] t (0, 0))) (v0 v1 v2 : Value) : (put3 w q v0 v1 v2).heap[q]? = some (.cells #[v0, v1, v2] t (0, 0)) :=
  heap_setCell_same _ _ 2 _ _ _ (heap_setCell_same _ _ 1 _ _ _ (heap_setCell_same _ _ 0 _ _ _ h))
theorem chg3 (w : World) (q : Nat) (v0 v1 v2 : Value) : Chg (fun k => k = q) w (put3 w q v0 v1 v2) := by
  unfold put3
  have k : ∀ {u : World} (j : Nat) (v : Value), Chg (fun k => k = q) w u → Chg (fun k => k = q) w (u.setCell ⟨q, j, none⟩ v) := fun j v h => h.setCell (p := ⟨q, j, none⟩) (Or.inl rfl) v
  exact k 2 _ (k 1 _ (k 0 _ (Chg.refl _ w)))
/-- The datagram of a question. -/
def DgGot (w : World) (B : Nat) (v : Value) (o : Ou) : Prop := ∃ A c A' c', v = .agg #[.slice A o.addr.length c, .int .i64 o.port, .slice A' (encP (qryM o)).1.length c'] ∧ OwnB w B (.slice A o.addr.length c) o.addr ∧ OwnB w B (.slice A' (encP (qryM o)).1.length c') (encP (qryM o)).1 ∧ (∀ b off b' off', A = some ⟨b, off, none⟩ → A' = some ⟨b', off', none⟩ → b ≠ b')
theorem ownB_ends {w : World} {B : Nat} {A : Option Addr} {n c : Nat} {bs : List UInt8} (h : OwnB w B (.slice A n c) bs) : ∀ b off, A = some ⟨b, off, none⟩ → B ≤ b ∧ b < w.heap.size := by
  intro b off e
  subst e
  have hl := World.ownsRow.lt h
  rcases h.2 with ⟨e0, _⟩ | ⟨g, cap, cur, e0, h3, _⟩
  · injection e0 with e0
    cases e0
  · injection e0 with e0
    injection e0 with e0
    injection e0 with e0
    subst e0
    exact hl _ rfl
theorem ownB_ch {w w' : World} {B : Nat} {v : Value} {bs : List UInt8} {F : Nat → Prop} (h : OwnB w B v bs) (hc : Chg F w w') (hF : ∀ k, v.ownBlock = some k → ¬ F k) : OwnB w' B v bs := h.chgv hc hF

set_option maxHeartbeats 4000000 in
theorem squery_ok (s : OuS) (o : Ou) (w : World) {S : Nat → Prop} (h : OIn S w s o) (hS : ∀ b, S b → b < w.heap.size) (hn : o.q.name.length ≤ 1000000000) (hok : OkO o) :
    Calls Try.prog 50 #[ouV s o] w (RetP (fun v w' => ∃ dv, v = .tuple #[dv, .int .i64 0] ∧ DgGot w' w.heap.size dv o) w) := by
  have HOK := Lib.hid hok
  clear hok
  obtain ⟨w1, hw1⟩ : ∃ w1, w1 = w.alloc (.cells (ouCells s o) 27) := ⟨_, rfl⟩
  obtain ⟨w2, hw2⟩ : ∃ w2, w2 = w1.alloc (.cells #[.slice none 0 0, .int .i64 0, .slice none 0 0] 38) := ⟨_, rfl⟩
  have hb1 : Below w.heap.size w w1 := by rw [hw1]; exact bl.alloc (Nat.le_refl _) _
  have hb2 : Below w1.heap.size w1 w2 := by rw [hw2]; exact bl.alloc (Nat.le_refl _) _
  have hz1 : w1.heap.size = w.heap.size + 1 := by rw [hw1]; simp
  have hz2 : w2.heap.size = w.heap.size + 2 := by rw [hw2]; simp; omega
  have hR1 : ORow w2 w.heap.size s o := by have h : ORow w1 w.heap.size s o := by rw [hw1]; exact ORow.made w s o
                                           exact h.below hb2
  have hD2 : w2.heap[w.heap.size + 1]? = some (.cells #[.slice none 0 0, .int .i64 0, .slice none 0 0] 38 (0, 0)) := by rw [hw2, ← hz1]; exact heap_alloc_new w1 _
  have HI2 := Lib.hid ((h.below hb1 hS).below hb2 (fun b hb => Nat.lt_of_lt_of_le (hS b hb) hb1.size))
  have HS2 : Hid (∀ b, S b → b < w2.heap.size) := fun b hb => by have := hS b hb; omega
  obtain ⟨w3, hw3⟩ : ∃ w3, w3 = w2.alloc (.cells (qCells s.q o.q) 25) := ⟨_, rfl⟩
  have hb3 : Below w2.heap.size w2 w3 := by rw [hw3]; exact bl.alloc (Nat.le_refl _) _
  have hmi := qry_in HI2.out.q HS2.out h.ii
  rw [← hw3] at hmi
  have henc := mEncode_any _ (qryM o) w3 hmi (fun b hb => hb) (qry_lt hn) (qry_bytes o)
  have HENC : Hid (Calls Try.prog 87 #[.agg #[.int .i64 o.id, .bool false, .int .i64 0, .bool false, .bool false, .bool false, .bool false, .int .i64 0, .slice (some ⟨w2.heap.size, 0, none⟩) 1 1, .slice none 0 0, .slice none 0 0, .slice none 0 0, .bool true, .int .i64 1232]] w3 (RetP (fun v w' => ∃ bv, v = .tuple #[bv, .int .i64 (encP (qryM o)).2] ∧ OwnB w' w3.heap.size bv (encP (qryM o)).1) w3)) := henc
  have HR1 := Lib.hid hR1
  have HD2 := Lib.hid hD2
  have HBW3 : Hid (Below w2.heap.size w2 w3) := hb3
  have HBW : Hid (Below w.heap.size w w3) := nx (nx hb1 hb2) hb3
  have HZ2 : Hid (w2.heap.size = w.heap.size + 2 ∧ w2.heap.size ≤ w3.heap.size) := ⟨hz2, hb3.size⟩
  obtain ⟨x0, x1, x2, x3, x4, x5⟩ := hR1.cells
  unfold ouV
  unfold ouCells at hw1 ⊢
  unfold qCells at hw3
  clear h hS hb1 hb2 hb3 hz1 hz2 hR1 hD2 hmi henc hn
  go_enter Try.func50, Try.ntmps50
  go_upto_region 1 with (fail)
  rw [← hw1, ← hw2]
  clear hw1 hw2
  go_upto_region 2 with (first
    | (go_at_call 87; rw [← hw3]; refine HENC.out.mono ?_; rintro e w4 ⟨v4, rfl, ⟨bv, rfl, ho4⟩, hb4⟩; obtain ⟨A4, c4, hv4, _, _, _⟩ := OwnB.form ho4; subst hv4; have HO4 := Lib.hid ho4; have HB4 := Lib.hid hb4; clear ho4 hb4)
    | fail)
  clear hw3 x0 x1 x2 x3 x4 x5
  have HBW4 := Lib.hid (nx HBW.out HB4.out)
  have HB24 := Lib.hid (nx HBW3.out HB4.out)
  have HR4 := Lib.hid (HR1.out.below HB24.out)
  have hD4 := (HB24.out.block _ (Array.getElem?_eq_some_iff.1 HD2.out).1).trans HD2.out
  have HD4 := Lib.hid hD4
  obtain ⟨x0, x1, x2, x3, x4, x5⟩ := HR4.out.cells
  have d0 : w4.cell? ⟨w.heap.size + 1, 0, none⟩ = some (.slice none 0 0) := (cell_of_row _ _ _ _ _ _ hD4).trans rfl
  have d1 : w4.cell? ⟨w.heap.size + 1, 1, none⟩ = some (.int .i64 0) := (cell_of_row _ _ _ _ _ _ hD4).trans rfl
  have d2 : w4.cell? ⟨w.heap.size + 1, 2, none⟩ = some (.slice none 0 0) := (cell_of_row _ _ _ _ _ _ hD4).trans rfl
  have f0 := frozen_of_row w4 (w.heap.size + 1) 0 _ _ hD4
  have f1 := frozen_of_row w4 (w.heap.size + 1) 1 _ _ hD4
  have f2 := frozen_of_row w4 (w.heap.size + 1) 2 _ _ hD4
  clear d0 d1 d2 f0 f1 f2 x0 x1 x2 x3 x4 x5
  have HFP := Lib.hid HOK.out.p
  rw [HOK.out.e]
  have ha4 := HOK.out.a
  have t0b : ((o.addr.length : Int) != 4) = false := by rw [ha4]; rfl
  have HA4 := Lib.hid ha4
  clear ha4
  have HBK : Hid (∀ w', Below w4.heap.size w4 w' → w'.cell? ⟨w.heap.size, 0, none⟩ = some (.slice s.A o.addr.length s.c) ∧ w'.cell? ⟨w.heap.size, 1, none⟩ = some (.int .i64 o.port)) := fun w' hw => ⟨(HR4.out.below hw).cells.1, (HR4.out.below hw).cells.2.1⟩
  obtain ⟨x0, x1⟩ := HBK.out w4 bl
  go_upto_region 4 with (first
    | (go_at_call 88; refine (fits_any o.port 2 w4).mono ?_; rw [HFP.out]; rintro e w5 ⟨rfl, rfl⟩)
    | fail)
  have y0 := HBK.out w4 bl
  have y1 := HBK.out w4.drew bl.drew
  have HADR : Hid (RdB w4.drew s.A o.addr.length o.addr) := els_bytes (So := S) (Si := S) ((HI2.out.below HB24.out HS2.out).a.keep (w' := w4.drew) (fun b hb => rfl) (fun b hb => rfl))
  clear x0 x1
  go_region_held3 (fun w' => w'.cell? ⟨w.heap.size, 0, none⟩ = some (.slice s.A o.addr.length s.c) ∧ w'.cell? ⟨w.heap.size, 1, none⟩ = some (.int .i64 o.port))
    (first
      | with_reducible exact y0
      | with_reducible exact y1
      | with_reducible exact y2
      | with_reducible exact y3
      | fail)
    (first
      | (go_at_call 89; refine (bclone_any _ _ _ o.addr w4.drew HADR.out (by have := HA4.out; omega)).mono ?_; rintro e w5 ⟨v5, rfl, ho5, hb5⟩; obtain ⟨A5, c5, hv5, _, _, _⟩ := OwnB.form ho5; subst hv5; have hb45 : Below w4.heap.size w4 w5 := (bl.drew.trans hb5); have y2 := HBK.out w5 hb45; have hD5 := (hb45.block _ (Array.getElem?_eq_some_iff.1 HD4.out).1).trans HD4.out; have d0 : w5.cell? ⟨w.heap.size + 1, 0, none⟩ = some (.slice none 0 0) := (cell_of_row _ _ _ _ _ _ hD5).trans rfl; have d1 : w5.cell? ⟨w.heap.size + 1, 1, none⟩ = some (.int .i64 0) := (cell_of_row _ _ _ _ _ _ hD5).trans rfl; have d2 : w5.cell? ⟨w.heap.size + 1, 2, none⟩ = some (.slice none 0 0) := (cell_of_row _ _ _ _ _ _ hD5).trans rfl; have f0 := frozen_of_row w5 (w.heap.size + 1) 0 _ _ hD5; have f1 := frozen_of_row w5 (w.heap.size + 1) 1 _ _ hD5; have f2 := frozen_of_row w5 (w.heap.size + 1) 2 _ _ hD5; have hcm := chg3 w5 (w.heap.size + 1) (.slice A5 o.addr.length c5) (.int .i64 o.port) (.slice A4 (encP (qryM o)).1.length c4); have y3 : (((w5.setCell ⟨w.heap.size + 1, 0, none⟩ (.slice A5 o.addr.length c5)).setCell ⟨w.heap.size + 1, 1, none⟩ (.int .i64 o.port)).setCell ⟨w.heap.size + 1, 2, none⟩ (.slice A4 (encP (qryM o)).1.length c4)).cell? ⟨w.heap.size, 0, none⟩ = some (.slice s.A o.addr.length s.c) ∧ (((w5.setCell ⟨w.heap.size + 1, 0, none⟩ (.slice A5 o.addr.length c5)).setCell ⟨w.heap.size + 1, 1, none⟩ (.int .i64 o.port)).setCell ⟨w.heap.size + 1, 2, none⟩ (.slice A4 (encP (qryM o)).1.length c4)).cell? ⟨w.heap.size, 1, none⟩ = some (.int .i64 o.port) := ⟨hcm.cell y2.1 (fun e => by simp at e), hcm.cell y2.2 (fun e => by simp at e)⟩)
      | fail)
  clear y0 y1 y2 y3
  have hRm := set3 hD5 (.slice A5 o.addr.length c5) (.int .i64 o.port) (.slice A4 (encP (qryM o)).1.length c4)
  obtain ⟨ym, hym⟩ : ∃ y, y = put3 w5 (w.heap.size + 1) (.slice A5 o.addr.length c5) (.int .i64 o.port) (.slice A4 (encP (qryM o)).1.length c4) := ⟨_, rfl⟩
  rw [← hym] at hRm hcm
  unfold put3 at hym
  rw [← hym]
  clear hym d0 d1 d2 f0 f1 f2 hD5
  have y0 : ym.cell? ⟨w.heap.size + 1, 0, none⟩ = some (.slice A5 o.addr.length c5) := (cell_of_row _ _ _ _ _ _ hRm).trans rfl
  have y1 : ym.cell? ⟨w.heap.size + 1, 1, none⟩ = some (.int .i64 o.port) := (cell_of_row _ _ _ _ _ _ hRm).trans rfl
  have y2 : ym.cell? ⟨w.heap.size + 1, 2, none⟩ = some (.slice A4 (encP (qryM o)).1.length c4) := (cell_of_row _ _ _ _ _ _ hRm).trans rfl
  have hw4 : w2.heap.size = w.heap.size + 2 ∧ w2.heap.size ≤ w3.heap.size := HZ2.out
  have hs34 := HB4.out.size
  have hs45 := hb45.size
  go_wp2
  refine bodyPost_ret (v := .tuple #[.agg #[.slice A5 o.addr.length c5, .int .i64 o.port, .slice A4 (encP (qryM o)).1.length c4], .int .i64 0]) ?_ rfl ⟨_, rfl, ⟨_, rfl, ⟨A5, c5, A4, c4, rfl, ?_, ?_, fun b off b' off' h1 h2 => by have h3 := (ownB_ends ho5 b off h1).1; have h4 := (ownB_ends HO4.out b' off' h2).2; have h5 : w4.drew.heap.size = w4.heap.size := rfl; omega⟩⟩, (nx HBW4.out hb45).trans (hcm.below (fun z hz => by omega) (by have := HBW4.out.size; omega))⟩
  · simp [results, Try.results50, go_sem, y0, y1, y2]
  · exact (ownB_ch ho5 hcm (fun k hk e => by have h1 := World.ownsRow.lt ho5 k hk; have h2 : w4.drew.heap.size = w4.heap.size := rfl; omega)).mono (by have h2 : w4.drew.heap.size = w4.heap.size := rfl; omega)
  · exact (ownB_ch (HO4.out.below hb45) hcm (fun k hk e => by have h1 := World.ownsRow.lt HO4.out k hk; omega)).mono (by omega)

end Go.Proofs.Ytimkdpkhdbiniaa

/- gazetteerlaw18.answers. -/
namespace Go.Proofs.Ytimkdpkhdbiniaa
open Go.RowKit
set_option maxRecDepth 100000

def ouA : Ou := ⟨[1, 2, 3, 4], 0, 258, ⟨[], 1, 1⟩⟩
theorem ouA_fine : FineM (qryM ouA) := ⟨by decide, by decide, by decide, by decide, by decide, by decide, by decide, .inl rfl, fun q hq => (by rw [show q = ouA.q from List.mem_singleton.1 hq]; exact ⟨soundB_iff.1 (by unfold soundB; simp [ouA, SoundN, sizeN]), by decide, by decide, by decide⟩), fun _ h => (List.not_mem_nil h).elim, fun _ h => (List.not_mem_nil h).elim, fun _ h => (List.not_mem_nil h).elim⟩
theorem ouA_b : (msW (qryM ouA)).b = [1, 2, 0, 0, 0, 1, 0, 0, 0, 0, 0, 1, 0, 0, 1, 0, 1, 0, 0, 41, 4, 208, 0, 0, 0, 0, 0, 0] := by kernel_rfl
theorem ouA_enc : encP (qryM ouA) = ([1, 2, 0, 0, 0, 1, 0, 0, 0, 0, 0, 1, 0, 0, 1, 0, 1, 0, 0, 41, 4, 208, 0, 0, 0, 0, 0, 0], 0) := by rw [encP_ok (fineM_yes ouA_fine) (by rw [ouA_b]; decide), ouA_b]
theorem ouA_ok : OkO ouA := ⟨rfl, by decide, by rw [ouA_enc]⟩
set_option maxHeartbeats 4000000 in
theorem answers18_any (w : World) : Calls Try.prog 14 #[] w (LawT w) := by
  obtain ⟨w1, hw1⟩ : ∃ w1, w1 = w.alloc (.cells #[.int .u8 1, .int .u8 2, .int .u8 3, .int .u8 4] 5) := ⟨_, rfl⟩
  have hb1 : Below w.heap.size w w1 := by rw [hw1]; exact bl.alloc (Nat.le_refl _) _
  have hlit : RdB w1 (some ⟨w.heap.size, 0, none⟩) 4 [1, 2, 3, 4] := by rw [hw1]; exact lit_rd w [1, 2, 3, 4] (Nat.le_of_ble_eq_true rfl)
  have hin : OIn (ltS w1) w1 ⟨some ⟨w.heap.size, 0, none⟩, 4, ⟨none, 0⟩⟩ ouA := ⟨bytes_rdE hlit, ⟨Nat.le_refl _, show (4 : Nat) ≤ maxLen by decide⟩, i64_0, ⟨show (-9223372036854775808 : Int) ≤ 258 by decide, show (258 : Int) ≤ 9223372036854775807 by decide⟩, ⟨Els.nil _ _ _ _ _, ⟨Nat.le_refl _, Nat.zero_le _⟩, ⟨show (-9223372036854775808 : Int) ≤ 1 by decide, show (1 : Int) ≤ 9223372036854775807 by decide⟩, ⟨show (-9223372036854775808 : Int) ≤ 1 by decide, show (1 : Int) ≤ 9223372036854775807 by decide⟩⟩⟩
  have hq := squery_ok _ ouA w1 hin (fun b hb => hb) (by decide) ouA_ok
  have HC : Hid (Calls Try.prog 50 #[.agg #[.slice (some ⟨w.heap.size, 0, none⟩) 4 4, .int .i64 0, .int .i64 258, .slice none 0 0, .int .i64 1, .int .i64 1]] w1 (RetP (fun v w' => ∃ A2 c2 b3 c3, v = .tuple #[.agg #[.slice A2 4 c2, .int .i64 0, .slice (some ⟨b3, 0, none⟩) 28 c3], .int .i64 0] ∧ w'.cell? ⟨b3, 0, none⟩ = some (.int .u8 1)) w1)) := by
    refine Calls.mono hq ?_
    rintro e w2 ⟨v2, rfl, ⟨dv, rfl, A2, c2, A3, c3, hdv, _, ho3, _⟩, hb2⟩
    rw [ouA_enc] at ho3 hdv
    obtain ⟨b3, cc3, hv3, _, _, _, _⟩ := OwnB.flat ho3 (by decide)
    injection hv3 with h1 h2 h3
    subst h1
    exact ⟨_, rfl, ⟨A2, c2, b3, c3, by rw [hdv]; rfl, (OwnB.cell ho3 (k := 0) (by decide)).trans rfl⟩, hb2⟩
  have HB1 := Lib.hid hb1
  clear hlit hin hb1 hq
  go_enter Try.func14, Try.ntmps14
  go_upto_region 2 with (first
    | (go_at_call 50; rw [← hw1]; refine HC.out.mono ?_; rintro e w2 ⟨v2, rfl, ⟨A2, c2, b3, c3, rfl, hc3⟩, hb2⟩; have HB2 := Lib.hid hb2; have hbd : Below w2.heap.size w2 (w2.alloc (.cells #[.slice A2 4 c2, .int .i64 0, .slice (some ⟨b3, 0, none⟩) 28 c3] 38)) := (bl.alloc (Nat.le_refl _) _); have hcd := below_cell hbd hc3; have e2 : (w2.alloc (.cells #[.slice A2 4 c2, .int .i64 0, .slice (some ⟨b3, 0, none⟩) 28 c3] 38)).cell? ⟨w2.heap.size, 2, none⟩ = some (.slice (some ⟨b3, 0, none⟩) 28 c3) := (new_cell w2 _ _ 2).trans rfl; have HBD := Lib.hid hbd; clear hb2 hbd)
    | fail)
  clear hw1
  go_wp2
  go_ret
  exact ⟨rfl, nx (nx HB1.out HB2.out) HBD.out⟩

end Go.Proofs.Ytimkdpkhdbiniaa
