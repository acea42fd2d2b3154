/- WnameBack: two writers and a row of numbers, side by side. -/
import Derived.Test.YtjpkddmdhdmhgaaWtrMem
import Derived.Test.YtjpkddmdhdmhgaaPushE
import Derived.Test.YtjpkddmdhdmhgaaTac
namespace Go.Proofs.Ytjpkddmdhdmhgaa
open Go.RowKit

theorem elI : ElT Try.prog 90 3 encI 8 := ElT.mk Try.underlying90 (.int .i64 0) 1 (by kernel_rfl) rfl rfl
structure BackSt (w wr : World) (g l : Nat) (F G : Nat → Prop) (x y : Wr) (v : Value) (ats : List Int) : Prop where
  W : Wtr wr w.heap.size F g x
  L : Wtr wr w.heap.size G l y
  A : OwnE encI 3 noS wr w.heap.size v ats
  FG : ∀ b, F b → ¬ G b
  AF : ∀ b, v.ownBlock = some b → ¬ F b ∧ ¬ G b
  bw : Below w.heap.size w wr

section
variable {w wr w' : World} {g l : Nat} {F G F' : Nat → Prop} {x y x' y' : Wr} {v : Value} {ats : List Int}
theorem BackSt.nx (h : BackSt w wr g l F G x y v ats) (hb : Below wr.heap.size wr w') : BackSt w w' g l F G x y v ats :=
  ⟨h.W.below hb, h.L.below hb, h.A.below hb, h.FG, h.AF, Go.Proofs.Ytjpkddmdhdmhgaa.nx h.bw hb⟩
theorem BackSt.stepW (h : BackSt w wr g l F G x y v ats) (hw : Wtr w' w.heap.size F' g x') (hc : Chg F wr w') (hF : ∀ z, F' z → F z ∨ wr.heap.size ≤ z) : BackSt w w' g l F' G x' y v ats :=
  ⟨hw, h.L.chg hc (fun b hb hf => h.FG b hf hb), h.A.chg hc (fun k hk => (h.AF k hk).1) (fun _ hb => hb.elim),
   fun b hb hg => (hF b hb).elim (fun hf => h.FG b hf hg) (fun hl => by have := (h.L.F_lt b hg).2; omega),
   fun b hb => ⟨fun hf => (hF b hf).elim (h.AF b hb).1 (fun hl => by have := (h.A.lt b hb).2; omega), (h.AF b hb).2⟩,
   h.W.bw h.bw (Nat.le_refl _) hc⟩
theorem BackSt.stepL (h : BackSt w wr g l F G x y v ats) (hw : Wtr w' w.heap.size F' l y') (hc : Chg G wr w') (hF : ∀ z, F' z → G z ∨ wr.heap.size ≤ z) : BackSt w w' g l F F' x y' v ats :=
  ⟨h.W.chg hc (fun b hb hf => h.FG b hb hf), hw, h.A.chg hc (fun k hk => (h.AF k hk).2) (fun _ hb => hb.elim),
   fun b hb hg => (hF b hg).elim (fun hf => h.FG b hb hf) (fun hl => by have := (h.W.F_lt b hb).2; omega),
   fun b hb => ⟨(h.AF b hb).1, fun hf => (hF b hf).elim (h.AF b hb).2 (fun hl => by have := (h.A.lt b hb).2; omega)⟩,
   h.L.bw h.bw (Nat.le_refl _) hc⟩
theorem BackSt.push (h : BackSt w wr g l F G x y v ats) {v' : Value} {n : Int} (ho : OwnE encI 3 (orS noS noS) w' w.heap.size v' (ats ++ [n])) (hg : wr.grownBy w' v.ownBlock) (hv : v'.ownBlock = v.ownBlock ∨ v'.ownBlock = some (wr.heap.size + 1)) :
    BackSt w w' g l F G x y v' (ats ++ [n]) := by
  have hc : Chg (fun b => v.ownBlock = some b) wr w' := (Chg.refl _ _).grown hg (fun k hk => .inl hk)
  have hbl : Below w.heap.size w w' := h.bw.trans (hc.below (fun b hb => (h.A.lt b hb).1) h.bw.size)
  have hS : orS noS noS = noS := by funext b; simp [orS, noS]
  rw [hS] at ho
  refine ⟨h.W.chg hc (fun b hb hf => (h.AF b hf).1 hb), h.L.chg hc (fun b hb hf => (h.AF b hf).2 hb), ho, h.FG, fun b hb => ?_, hbl⟩
  rcases hv with e | e
  · exact h.AF b (by rw [← e]; exact hb)
  · rw [e] at hb
    injection hb with hb
    exact ⟨fun hf => by have := (h.W.F_lt b hf).2; omega, fun hf => by have := (h.L.F_lt b hf).2; omega⟩
/-- A number of the row. -/
theorem BackSt.at_ (h : BackSt w wr g l F G x y v ats) {k : Nat} {n : Int} (hk : ats[k]? = some n) : ∃ gb c, v = .slice (some ⟨gb, 0, none⟩) ats.length c ∧ ats.length ≤ c ∧ wr.cell? ⟨gb, k, none⟩ = some (.int .i64 n) ∧ -9223372036854775808 ≤ n ∧ n ≤ 9223372036854775807 := by
  obtain ⟨gb, c, rfl, _, _, hc, _, _, hat⟩ := OwnE.flat h.A (Nat.lt_of_le_of_lt (Nat.zero_le k) (List.getElem?_eq_some_iff.1 hk).1)
  obtain ⟨r, ⟨rfl, hr⟩, hcell⟩ := hat k n hk
  refine ⟨gb, c, rfl, hc, ?_, hr⟩
  have := hcell 0 _ rfl
  simpa [encI, flatE] using this
/-- A list of names read in memory. -/
theorem names_at {A : Option Addr} {n : Nat} {data : List (List (List UInt8))} (h : RdE (slE encS) w A n data) {k : Nat} {ns : List (List UInt8)} (hx : data[k]? = some ns) :
    ∃ b off A' cx, A = some ⟨b, off, none⟩ ∧ w.cell? ⟨b, off + k, none⟩ = some (.slice A' ns.length cx) ∧ RdE encS w A' ns.length ns ∧ ns.length ≤ cx ∧ cx ≤ maxLen := by
  obtain ⟨b, off, rfl, _, hat⟩ := Els.flat h (by rw [← h.len]; exact Nat.lt_of_le_of_lt (Nat.zero_le k) (List.getElem?_eq_some_iff.1 hx).1)
  obtain ⟨r, ⟨A', m, cx, rfl, he, h1, h2⟩, hc⟩ := hat k ns hx
  have hl := he.len
  subst hl
  exact ⟨b, off, A', cx, rfl, by simpa [slE] using hc 0 _ rfl, he, h1, h2⟩
theorem ints_at {So Si : Nat → Prop} {A : Option Addr} {n : Nat} {xs : List Int} (h : Els encI So Si w A n xs) {k : Nat} {x : Int} (hx : xs[k]? = some x) :
    ∃ b off, A = some ⟨b, off, none⟩ ∧ w.cell? ⟨b, off + k, none⟩ = some (.int .i64 x) := by
  obtain ⟨b, off, rfl, _, hat⟩ := Els.flat h (by rw [← h.len]; exact Nat.lt_of_le_of_lt (Nat.zero_le k) (List.getElem?_eq_some_iff.1 hx).1)
  obtain ⟨r, ⟨rfl, _⟩, hc⟩ := hat k x hx
  exact ⟨b, off, rfl, by simpa [encI, flatE] using hc 0 _ rfl⟩
theorem bools_at {A : Option Addr} {n : Nat} {sh : List Bool} (h : RdE encBool w A n sh) {k : Nat} {s : Bool} (hx : sh[k]? = some s) :
    ∃ b off, A = some ⟨b, off, none⟩ ∧ w.cell? ⟨b, off + k, none⟩ = some (.bool s) := by
  obtain ⟨b, off, rfl, _, hat⟩ := Els.flat h (by rw [← h.len]; exact Nat.lt_of_le_of_lt (Nat.zero_le k) (List.getElem?_eq_some_iff.1 hx).1)
  obtain ⟨r, ⟨rfl, _⟩, hc⟩ := hat k s hx
  exact ⟨b, off, rfl, by simpa [encBool, flatE] using hc 0 _ rfl⟩
end
end Go.Proofs.Ytjpkddmdhdmhgaa
