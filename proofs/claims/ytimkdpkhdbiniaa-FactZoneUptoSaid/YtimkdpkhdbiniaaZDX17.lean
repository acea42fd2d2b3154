/- Parts of a proof, joined: OpenM2, Law13K. -/
import Derived.Test.YtimkdpkhdbiniaaZDM05
import Derived.Test.YtimkdpkhdbiniaaZDX16
import Derived.Test.YtimkdpkhdbiniaaZDF03r
import Derived.Test.YtimkdpkhdbiniaaZDM03
import Derived.Test.YtimkdpkhdbiniaaZDM23r
/- A message that came in, with how long its questions' names are (printed by gen/openm2.py). -/
namespace Go.Proofs.Ytimkdpkhdbiniaa
open Go.ChangeShapes Go.WideShapes Go.ChangeAt Go.RowKit
set_option maxRecDepth 100000
def wtQu (x : Qu) : Nat := x.name.length + 1
theorem opens_Qu2 : Opens 25 encQu any wtQu := by
  intro H enc W base sp hd fuel cs x h
  obtain ⟨xs, n, hx, hc, hl, hfd, hw⟩ := trod_fields Try.underlying25 h
  rw [show Try.prog.cellsOf 25 = 3 by kernel_rfl] at hc
  obtain ⟨c0, c1, c2, rfl⟩ := len3 hc
  obtain ⟨y0, e0, h0⟩ := hfd 0 _ rfl
  obtain ⟨y1, e1, h1⟩ := hfd 1 _ rfl
  obtain ⟨y2, e2, h2⟩ := hfd 2 _ rfl
  have g0 : DataW.trod enc Try.prog W base sp hd n 23 (([c0, c1, c2].drop 0).take (Try.prog.cellsOf 23)) = some y0 := h0
  have g1 : DataW.trod enc Try.prog W base sp hd n 3 (([c0, c1, c2].drop 1).take (Try.prog.cellsOf 3)) = some y1 := h1
  have g2 : DataW.trod enc Try.prog W base sp hd n 3 (([c0, c1, c2].drop 2).take (Try.prog.cellsOf 3)) = some y2 := h2
  rw [show Try.prog.cellsOf 3 = 1 by kernel_rfl] at g1 g2
  rw [show Try.prog.cellsOf 23 = 1 by kernel_rfl] at g0
  obtain ⟨a0, ⟨A0, n0, k0, r0, q0, l0, m0⟩, f0, w0⟩ := opens_sl (t := 23) Try.underlying23 (by kernel_rfl) (opens_str Try.underlying9) H enc W base sp hd n _ _ g0
  obtain ⟨a1, ⟨r1, b1⟩, f1, w1⟩ := opens_int Try.underlying3 H enc W base sp hd n _ _ g1
  obtain ⟨a2, ⟨r2, b2⟩, f2, w2⟩ := opens_int Try.underlying3 H enc W base sp hd n _ _ g2
  have u0 := field_bulk hx e0
  have v0 := wtL_length (wt := fun l : List UInt8 => l.length + 1) (fun l => Nat.le_add_left 1 l.length) a0
  simp at r0 r1 r2
  have e0 := q0.1
  subst r0 r1 r2 e0
  exact ⟨⟨a0, a1, a2⟩, ⟨A0, k0, rfl, q0, ⟨l0, m0⟩, b1, b2⟩, fun _ => trivial, by show a0.length + 1 ≤ _; omega⟩
/-- How large a message is that came in. -/
structure MBig2 (m : Ms) (B : Nat) : Prop where
  q : m.qs.length ≤ B
  a : m.an.length ≤ B
  u : m.au.length ≤ B
  x : m.ex.length ≤ B
  b : ∀ r ∈ m.an ++ m.au ++ m.ex, r.data.bytes.length ≤ B
  qn : ∀ x ∈ m.qs, x.name.length ≤ B
theorem open_ms2 {H : Type} {enc : TypeId × Value → H} {W : World} {base b0 : Nat} {sp : Nat → Bool} {hd : Bool} {r : Reach} {v : Value} {d : DataW H} {p : List MemPlace}
    (hv : Value.okWide Try.prog W r b0 31 v) (h : DataW.Trod enc Try.prog W base sp hd 31 v d p) : ∃ s m, v = msV s m ∧ MIn (ltS W) W s m ∧ MBig2 m (Rows.uptoBulk d) := by
  obtain ⟨cs, rfl, hsz⟩ := okWide_struct Try.underlying31 hv
  rw [show Try.prog.cellsOf 31 = 14 by kernel_rfl] at hsz
  obtain ⟨l⟩ := cs
  obtain ⟨c0, c1, c2, c3, c4, c5, c6, c7, c8, c9, c10, c11, c12, c13, rfl⟩ := len14 (l := l) (by simpa using hsz)
  obtain ⟨fuel, hf⟩ := h
  have hf' : DataW.trod enc Try.prog W base sp hd fuel 31 [c0, c1, c2, c3, c4, c5, c6, c7, c8, c9, c10, c11, c12, c13] = some (d, p) := by simpa [Value.cells] using hf
  obtain ⟨xs, n, hx, hc, hl, hfd, hw⟩ := trod_fields Try.underlying31 hf'
  obtain ⟨y0, e0, h0⟩ := hfd 0 _ rfl
  obtain ⟨y1, e1, h1⟩ := hfd 1 _ rfl
  obtain ⟨y2, e2, h2⟩ := hfd 2 _ rfl
  obtain ⟨y3, e3, h3⟩ := hfd 3 _ rfl
  obtain ⟨y4, e4, h4⟩ := hfd 4 _ rfl
  obtain ⟨y5, e5, h5⟩ := hfd 5 _ rfl
  obtain ⟨y6, e6, h6⟩ := hfd 6 _ rfl
  obtain ⟨y7, e7, h7⟩ := hfd 7 _ rfl
  obtain ⟨y8, e8, h8⟩ := hfd 8 _ rfl
  obtain ⟨y9, e9, h9⟩ := hfd 9 _ rfl
  obtain ⟨y10, e10, h10⟩ := hfd 10 _ rfl
  obtain ⟨y11, e11, h11⟩ := hfd 11 _ rfl
  obtain ⟨y12, e12, h12⟩ := hfd 12 _ rfl
  obtain ⟨y13, e13, h13⟩ := hfd 13 _ rfl
  have g0 : DataW.trod enc Try.prog W base sp hd n 3 (([c0, c1, c2, c3, c4, c5, c6, c7, c8, c9, c10, c11, c12, c13].drop 0).take (Try.prog.cellsOf 3)) = some y0 := h0
  have g1 : DataW.trod enc Try.prog W base sp hd n 4 (([c0, c1, c2, c3, c4, c5, c6, c7, c8, c9, c10, c11, c12, c13].drop 1).take (Try.prog.cellsOf 4)) = some y1 := h1
  have g2 : DataW.trod enc Try.prog W base sp hd n 3 (([c0, c1, c2, c3, c4, c5, c6, c7, c8, c9, c10, c11, c12, c13].drop 2).take (Try.prog.cellsOf 3)) = some y2 := h2
  have g3 : DataW.trod enc Try.prog W base sp hd n 4 (([c0, c1, c2, c3, c4, c5, c6, c7, c8, c9, c10, c11, c12, c13].drop 3).take (Try.prog.cellsOf 4)) = some y3 := h3
  have g4 : DataW.trod enc Try.prog W base sp hd n 4 (([c0, c1, c2, c3, c4, c5, c6, c7, c8, c9, c10, c11, c12, c13].drop 4).take (Try.prog.cellsOf 4)) = some y4 := h4
  have g5 : DataW.trod enc Try.prog W base sp hd n 4 (([c0, c1, c2, c3, c4, c5, c6, c7, c8, c9, c10, c11, c12, c13].drop 5).take (Try.prog.cellsOf 4)) = some y5 := h5
  have g6 : DataW.trod enc Try.prog W base sp hd n 4 (([c0, c1, c2, c3, c4, c5, c6, c7, c8, c9, c10, c11, c12, c13].drop 6).take (Try.prog.cellsOf 4)) = some y6 := h6
  have g7 : DataW.trod enc Try.prog W base sp hd n 3 (([c0, c1, c2, c3, c4, c5, c6, c7, c8, c9, c10, c11, c12, c13].drop 7).take (Try.prog.cellsOf 3)) = some y7 := h7
  have g8 : DataW.trod enc Try.prog W base sp hd n 28 (([c0, c1, c2, c3, c4, c5, c6, c7, c8, c9, c10, c11, c12, c13].drop 8).take (Try.prog.cellsOf 28)) = some y8 := h8
  have g9 : DataW.trod enc Try.prog W base sp hd n 29 (([c0, c1, c2, c3, c4, c5, c6, c7, c8, c9, c10, c11, c12, c13].drop 9).take (Try.prog.cellsOf 29)) = some y9 := h9
  have g10 : DataW.trod enc Try.prog W base sp hd n 29 (([c0, c1, c2, c3, c4, c5, c6, c7, c8, c9, c10, c11, c12, c13].drop 10).take (Try.prog.cellsOf 29)) = some y10 := h10
  have g11 : DataW.trod enc Try.prog W base sp hd n 29 (([c0, c1, c2, c3, c4, c5, c6, c7, c8, c9, c10, c11, c12, c13].drop 11).take (Try.prog.cellsOf 29)) = some y11 := h11
  have g12 : DataW.trod enc Try.prog W base sp hd n 4 (([c0, c1, c2, c3, c4, c5, c6, c7, c8, c9, c10, c11, c12, c13].drop 12).take (Try.prog.cellsOf 4)) = some y12 := h12
  have g13 : DataW.trod enc Try.prog W base sp hd n 3 (([c0, c1, c2, c3, c4, c5, c6, c7, c8, c9, c10, c11, c12, c13].drop 13).take (Try.prog.cellsOf 3)) = some y13 := h13
  rw [show Try.prog.cellsOf 4 = 1 by kernel_rfl] at g1 g3 g4 g5 g6 g12
  rw [show Try.prog.cellsOf 3 = 1 by kernel_rfl] at g0 g2 g7 g13
  rw [show Try.prog.cellsOf 28 = 1 by kernel_rfl] at g8
  rw [show Try.prog.cellsOf 29 = 1 by kernel_rfl] at g9 g10 g11
  obtain ⟨a0, ⟨r0, b0⟩, f0, w0⟩ := opens_int Try.underlying3 H enc W base sp hd n _ _ g0
  obtain ⟨a1, ⟨r1, b1⟩, f1, w1⟩ := opens_bool Try.underlying4 H enc W base sp hd n _ _ g1
  obtain ⟨a2, ⟨r2, b2⟩, f2, w2⟩ := opens_int Try.underlying3 H enc W base sp hd n _ _ g2
  obtain ⟨a3, ⟨r3, b3⟩, f3, w3⟩ := opens_bool Try.underlying4 H enc W base sp hd n _ _ g3
  obtain ⟨a4, ⟨r4, b4⟩, f4, w4⟩ := opens_bool Try.underlying4 H enc W base sp hd n _ _ g4
  obtain ⟨a5, ⟨r5, b5⟩, f5, w5⟩ := opens_bool Try.underlying4 H enc W base sp hd n _ _ g5
  obtain ⟨a6, ⟨r6, b6⟩, f6, w6⟩ := opens_bool Try.underlying4 H enc W base sp hd n _ _ g6
  obtain ⟨a7, ⟨r7, b7⟩, f7, w7⟩ := opens_int Try.underlying3 H enc W base sp hd n _ _ g7
  obtain ⟨a8, ⟨A8, n8, k8, r8, q8, l8, m8⟩, f8, w8⟩ := opens_sl (t := 28) Try.underlying28 (by kernel_rfl) opens_Qu2 H enc W base sp hd n _ _ g8
  obtain ⟨a9, ⟨A9, n9, k9, r9, q9, l9, m9⟩, f9, w9⟩ := opens_sl (t := 29) Try.underlying29 (by kernel_rfl) opens_RR2 H enc W base sp hd n _ _ g9
  obtain ⟨a10, ⟨A10, n10, k10, r10, q10, l10, m10⟩, f10, w10⟩ := opens_sl (t := 29) Try.underlying29 (by kernel_rfl) opens_RR2 H enc W base sp hd n _ _ g10
  obtain ⟨a11, ⟨A11, n11, k11, r11, q11, l11, m11⟩, f11, w11⟩ := opens_sl (t := 29) Try.underlying29 (by kernel_rfl) opens_RR2 H enc W base sp hd n _ _ g11
  obtain ⟨a12, ⟨r12, b12⟩, f12, w12⟩ := opens_bool Try.underlying4 H enc W base sp hd n _ _ g12
  obtain ⟨a13, ⟨r13, b13⟩, f13, w13⟩ := opens_int Try.underlying3 H enc W base sp hd n _ _ g13
  have u8 := field_bulk hx e8
  have u9 := field_bulk hx e9
  have u10 := field_bulk hx e10
  have u11 := field_bulk hx e11
  change _ ≤ Rows.uptoBulk d at u8 u9 u10 u11
  have v8 := wtL_length (wt := wtQu) (fun _ => Nat.le_add_left _ _) a8
  obtain ⟨v9, x9⟩ := rr_sized w9
  obtain ⟨v10, x10⟩ := rr_sized w10
  obtain ⟨v11, x11⟩ := rr_sized w11
  simp at r0 r1 r2 r3 r4 r5 r6 r7 r8 r9 r10 r11 r12 r13
  have e8 := q8.1
  have e9 := q9.1
  have e10 := q10.1
  have e11 := q11.1
  subst r0 r1 r2 r3 r4 r5 r6 r7 r8 r9 r10 r11 r12 r13 e8 e9 e10 e11
  refine ⟨⟨A8, k8, A9, k9, A10, k10, A11, k11⟩, ⟨a0, a1, a2, a3, a4, a5, a6, a7, a8, a9, a10, a11, a12, a13⟩, rfl, ⟨q8, q9, q10, q11, ⟨l8, m8⟩, ⟨l9, m9⟩, ⟨l10, m10⟩, ⟨l11, m11⟩, b0, b2, b7, b13⟩, ⟨?_, ?_, ?_, ?_, fun z hz => ?_, fun z hz => ?_⟩⟩
  · show a8.length ≤ Rows.uptoBulk d; omega
  · show a9.length ≤ Rows.uptoBulk d; omega
  · show a10.length ≤ Rows.uptoBulk d; omega
  · show a11.length ≤ Rows.uptoBulk d; omega
  · rcases List.mem_append.1 hz with hz | hz
    · rcases List.mem_append.1 hz with hz | hz
      · have := x9 z hz; omega
      · have := x10 z hz; omega
    · have := x11 z hz; omega
  · have h2 : z.name.length + 1 + 1 ≤ wtL wtQu a8 := wtL_mem (wt := wtQu) hz
    show z.name.length ≤ Rows.uptoBulk d
    omega
end Go.Proofs.Ytimkdpkhdbiniaa

/- FactKeeps: the law's walk (printed by gen/law13k.py). -/
namespace Go.Proofs.Ytimkdpkhdbiniaa
open Go.RowKit
set_option maxRecDepth 100000
set_option linter.unusedVariables false

section
variable {B : Nat} {w w' : World}
end
/-- A fact in a row of facts that may be written into. -/
theorem fa_at {B : Nat} {So Si : Nat → Prop} {w : World} {A : Option Addr} {n : Nat} {xs : List Fa} (h : Els (encFaL B) So Si w A n xs) {k : Nat} {f : Fa} (hx : xs[k]? = some f) :
    ∃ b off s, A = some ⟨b, off, none⟩ ∧ So b ∧ FaIn (fun b => Si b ∧ B ≤ b ∧ Loose w b) w s f ∧ ∀ j u, (faCells s f).toList[j]? = some u → w.cell? ⟨b, off + k * 13 + j, none⟩ = some u := by
  obtain ⟨b, off, rfl, hb, hat⟩ := Els.flat h (by rw [← h.len]; exact Nat.lt_of_le_of_lt (Nat.zero_le k) (List.getElem?_eq_some_iff.1 hx).1)
  obtain ⟨r, ⟨s, rfl, hf⟩, hc⟩ := hat k f hx
  exact ⟨b, off, s, rfl, hb, hf, fun j u hu => by rw [Nat.add_assoc]; exact hc j u hu⟩
theorem lt13_ltM {m : Ms} (h : LtMsg13 m) (hq : ∀ x ∈ m.qs, x.name.length ≤ 1048576) : LtM m := by
  have hl : m.an.length + m.au.length + m.ex.length ≤ 150 := by have := h.all; rw [List.length_append, List.length_append] at this; exact this
  have hsub : ∀ j, ∀ x ∈ secL m j, x ∈ m.an ++ m.au ++ m.ex := fun j x hx => by
    match j, hx with
    | 0, hx => exact List.mem_append_left _ (List.mem_append_left _ hx)
    | 1, hx => exact List.mem_append_left _ (List.mem_append_right _ hx)
    | n + 2, hx => exact List.mem_append_right _ hx
  refine ⟨by have := h.qs; omega, fun j => ?_, fun x hx => by have := hq x hx; omega, fun j x hx => ?_⟩
  · match j with
    | 0 => show m.an.length ≤ _; omega
    | 1 => show m.au.length ≤ _; omega
    | n + 2 => show m.ex.length ≤ _; omega
  · obtain ⟨h1, h2, h3, h4, h5, h6⟩ := h.r x (hsub j x hx)
    exact ⟨⟨by omega, by omega, by omega, by omega, by omega⟩, by omega⟩
theorem rowMs : RowT Try.prog 31 14 := ⟨_, Try.underlying31, by kernel_rfl⟩

end Go.Proofs.Ytimkdpkhdbiniaa
