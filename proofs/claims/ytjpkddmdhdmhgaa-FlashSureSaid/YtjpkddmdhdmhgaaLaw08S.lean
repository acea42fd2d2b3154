/- flash: FlashSure. -/
import Derived.Test.YtjpkddmdhdmhgaaLaw08
import Derived.Test.YtjpkddmdhdmhgaaFlashSP
namespace Go.Proofs.Ytjpkddmdhdmhgaa
open Go.RowKit

theorem infoSl : (Try.prog.info? 22).map (fun i => (i.zero, i.size, i.bytes)) = some (some (.slice none 0 0), 1, 24) := by kernel_rfl
theorem infoBool : (Try.prog.info? 4).map (fun i => (i.zero, i.size, i.bytes)) = some (some (.bool false), 1, 1) := by kernel_rfl
theorem mkSl8 (w : World) : (Instr.makeSlice 39 (.int .i64 8) (.int .i64 8)).run Try.prog w = .ok (.slice (some ⟨w.heap.size, 0, none⟩) 8 8) (w.alloc (.cells (madeCells #[.slice none 0 0] 8) 22)) := by
  obtain ⟨i0, hi, hz, hs, hb⟩ := info_parts infoSl
  have h := run_make (P := Try.prog) w 39 22 i0 _ Try.underlying39 hi hz .i64 .i64 8 8 (by omega) (by omega) (by rw [hb]; omega) (by omega)
  simp only [hs, Nat.mul_one] at h
  exact h
theorem mkBool8 (w : World) : (Instr.makeSlice 46 (.int .i64 8) (.int .i64 8)).run Try.prog w = .ok (.slice (some ⟨w.heap.size, 0, none⟩) 8 8) (w.alloc (.cells (madeCells #[.bool false] 8) 4)) := by
  obtain ⟨i0, hi, hz, hs, hb⟩ := info_parts infoBool
  have h := run_make (P := Try.prog) w 46 4 i0 _ Try.underlying46 hi hz .i64 .i64 8 8 (by omega) (by omega) (by rw [hb]; omega) (by omega)
  simp only [hs, Nat.mul_one] at h
  exact h

/-- A row of the call's own of one-cell elements, each the same. -/
theorem OwnE.made1 {α : Type} {E : Enc α} {e : TypeId} {S : Nat → Prop} (w : World) (z : Value) (x : α) (n : Nat) (hE : E.size = 1) (hn : n ≤ maxLen) (hR : E.R S (w.alloc (.cells (madeCells #[z] n) e)) [z] x) (hS : ∀ b, S b → b < w.heap.size) :
    OwnE E e S (w.alloc (.cells (madeCells #[z] n) e)) w.heap.size (.slice (some ⟨w.heap.size, 0, none⟩) n n) (List.replicate n x) := by
  have h := World.ownsRow_lit (e := e) (size := 1) w (madeCells #[z] n) n (Nat.le_refl _) hn (by simp [size_madeCells])
  rw [toList_madeCells_one] at h
  refine ⟨List.replicate n z, by rw [hE, List.length_replicate]; exact h, fun i y hy => ?_, fun b hb => ⟨by have := hS b hb; simp; omega, fun e => ?_⟩⟩
  · rw [List.getElem?_replicate] at hy
    split at hy
    · rename_i hi
      injection hy with hy
      subst hy
      rw [hE, Nat.mul_one]
      have : (List.replicate n z).drop i = z :: List.replicate (n - i - 1) z := by
        rw [List.drop_replicate, show n - i = (n - i - 1) + 1 by omega, List.replicate_succ]
        simp
      rw [this]
      exact hR
    · cases hy
  · have := hS b hb
    injection e with e
    simp only at e
    omega

section
variable {w : World} {base W n c : Nat} {S : Nat → Prop} {want : List (List UInt8)} {broken : List Bool}
theorem OwnSl.put (h : OwnE (slE encB) 22 S w base (.slice (some ⟨W, 0, none⟩) n c) want) {k : Nat} (hk : k < want.length) {A : Option Addr} {x : List UInt8} {m cx : Nat} (hx : RdB w A m x) (hA : ∀ b off, A = some ⟨b, off, none⟩ → 0 < m → S b) (h1 : m ≤ cx) (h2 : cx ≤ maxLen) :
    OwnE (slE encB) 22 S (w.setCell ⟨W, k, none⟩ (.slice A m cx)) base (.slice (some ⟨W, 0, none⟩) n c) (want.set k x) := by
  have hS := h.S_lt
  have := OwnE.store (i := k) (j := 0) (y := x) (u := .slice A m cx) h (List.getElem?_eq_getElem hk) (by decide) (fun r hr => by
    obtain ⟨A', n', c', rfl, _⟩ := hr
    refine ⟨A, m, cx, rfl, ?_, h1, h2⟩
    rcases Nat.eq_zero_or_pos m with h0 | h0
    · subst h0
      obtain rfl : x = [] := List.eq_nil_of_length_eq_zero hx.len
      exact Els.nil _ _ _ _ _
    · refine bytes_els (hx.chg (F := fun x => x = W) ((Chg.refl (fun x => x = W) w).setCell (p := ⟨W, k * (slE encB).size + 0, none⟩) (Or.inl rfl) _) (fun b off e hb => ?_)) (fun b off e => hA b off e h0)
      have := (hS b (hA b off e h0)).2
      rw [hb] at this
      exact this rfl)
  simpa [slE] using this
theorem OwnSl.at_ (h : OwnE (slE encB) 22 S w base (.slice (some ⟨W, 0, none⟩) n c) want) {k : Nat} {x : List UInt8} (hx : want[k]? = some x) : ∃ A cx, w.cell? ⟨W, k, none⟩ = some (.slice A x.length cx) ∧ RdB w A x.length x ∧ x.length ≤ cx ∧ ∀ b off, A = some ⟨b, off, none⟩ → 0 < x.length → S b := by
  obtain ⟨g, c', e, _, _, _, _, _, hat⟩ := h.flat (Nat.lt_of_le_of_lt (Nat.zero_le k) (List.getElem?_eq_some_iff.1 hx).1)
  injection e with e
  injection e with e
  injection e with e
  subst e
  obtain ⟨r, ⟨A, m, cx, rfl, he, h1, h2⟩, hc⟩ := hat k x hx
  have hl := he.len
  subst hl
  refine ⟨A, cx, by simpa [slE] using hc 0 _ rfl, els_bytes he, h1, fun b off e hn => ?_⟩
  obtain ⟨b2, off2, e2, hs, _⟩ := he.2 hn
  rw [e] at e2
  injection e2 with e2
  injection e2 with e2
  subst e2
  exact hs
theorem OwnBl.put (h : OwnE encBool 4 noS w base (.slice (some ⟨W, 0, none⟩) n c) broken) {k : Nat} (hk : k < broken.length) (b : Bool) :
    OwnE encBool 4 noS (w.setCell ⟨W, k, none⟩ (.bool b)) base (.slice (some ⟨W, 0, none⟩) n c) (broken.set k b) := by
  have := OwnE.store (i := k) (j := 0) (y := b) (u := .bool b) h (List.getElem?_eq_getElem hk) (by decide) (fun r hr => by
    obtain ⟨rfl, _⟩ := hr
    exact ⟨rfl, trivial⟩)
  simpa [encBool, flatE] using this
theorem OwnBl.at_ (h : OwnE encBool 4 noS w base (.slice (some ⟨W, 0, none⟩) n c) broken) {k : Nat} {b : Bool} (hx : broken[k]? = some b) : w.cell? ⟨W, k, none⟩ = some (.bool b) := by
  obtain ⟨g, c', e, _, _, _, _, _, hat⟩ := h.flat (Nat.lt_of_le_of_lt (Nat.zero_le k) (List.getElem?_eq_some_iff.1 hx).1)
  injection e with e
  injection e with e
  injection e with e
  subst e
  obtain ⟨r, ⟨rfl, _⟩, hc⟩ := hat k b hx
  simpa [encBool, flatE] using hc 0 _ rfl
end

theorem rdSl_at {w : World} {A : Option Addr} {n : Nat} {data : List (List UInt8)} (h : RdE (slE encB) w A n data) {k : Nat} {x : List UInt8} (hx : data[k]? = some x) :
    ∃ b off A' cx, A = some ⟨b, off, none⟩ ∧ w.cell? ⟨b, off + k, none⟩ = some (.slice A' x.length cx) ∧ RdB w A' x.length x ∧ x.length ≤ cx ∧ cx ≤ maxLen ∧ ∀ b' off', A' = some ⟨b', off', none⟩ → 0 < x.length → b' < w.heap.size := by
  obtain ⟨b, off, rfl, _, hat⟩ := Els.flat h (by rw [← h.len]; exact Nat.lt_of_le_of_lt (Nat.zero_le k) (List.getElem?_eq_some_iff.1 hx).1)
  obtain ⟨r, ⟨A', m, cx, rfl, he, h1, h2⟩, hc⟩ := hat k x hx
  have hl := he.len
  subst hl
  refine ⟨b, off, A', cx, rfl, by simpa [slE] using hc 0 _ rfl, els_bytes he, h1, h2, fun b' off' e hn => ?_⟩
  obtain ⟨b2, off2, e2, hs, _⟩ := he.2 hn
  rw [e] at e2
  injection e2 with e2
  injection e2 with e2
  subst e2
  exact hs

/-- The device and what is wanted of it, side by side. -/
structure SureSt (w0 w : World) (g W : Nat) (F S : Nat → Prop) (d : Dv) (want : List (List UInt8)) : Prop where
  dev : Dev w w0.heap.size F g d
  row : OwnE (slE encB) 22 S w w0.heap.size (.slice (some ⟨W, 0, none⟩) 8 8) want
  apart : ∀ x, F x → x ≠ W ∧ ¬ S x
  below : Below w0.heap.size w0 w
section
variable {w0 w w' : World} {g W : Nat} {F F' S G : Nat → Prop} {d d' : Dv} {want : List (List UInt8)}
theorem SureSt.W_lt (h : SureSt w0 w g W F S d want) : w0.heap.size ≤ W ∧ W < w.heap.size := h.row.lt W rfl
/-- The device's call has turned it. -/
theorem SureSt.step (h : SureSt w0 w g W F S d want) (hd : Dev w' w0.heap.size F' g d') (hc : Chg F w w') (hF : ∀ x, F' x → F x ∨ w.heap.size ≤ x) : SureSt w0 w' g W F' S d' want where
  dev := hd
  row := h.row.chg hc (fun k hk hf => by injection hk with hk; subst hk; exact (h.apart _ hf).1 rfl) (fun b hb hf => (h.apart b hf).2 hb)
  apart := fun x hx => by
    have hw := h.W_lt
    have hs := h.row.S_lt x
    rcases hF x hx with hx | hx
    · exact h.apart x hx
    · exact ⟨by omega, fun hb => by have := (hs hb).1; omega⟩
  below := Dev.bw h.below h.dev (Nat.le_refl _) hc
theorem SureSt.nx (h : SureSt w0 w g W F S d want) (hb : Below w.heap.size w w') : SureSt w0 w' g W F S d want where
  dev := h.dev.below hb
  row := h.row.below hb
  apart := h.apart
  below := Proofs.Ytjpkddmdhdmhgaa.nx h.below hb
theorem SureSt.put (h : SureSt w0 w g W F S d want) {k : Nat} (hk : k < want.length) {A : Option Addr} {x : List UInt8} {m cx : Nat} (hx : RdB w A m x) (hA : ∀ b off, A = some ⟨b, off, none⟩ → 0 < m → S b) (h1 : m ≤ cx) (h2 : cx ≤ maxLen) : SureSt w0 (w.setCell ⟨W, k, none⟩ (.slice A m cx)) g W F S d (want.set k x) where
  dev := h.dev.chg (G := fun x => x = W) ((Chg.refl (fun x => x = W) w).setCell (p := ⟨W, k, none⟩) (Or.inl rfl) _) (fun x hx => (h.apart x hx).1)
  row := OwnSl.put h.row hk hx hA h1 h2
  apart := h.apart
  below := h.below.setCell h.W_lt.1 _
theorem SureSt.other (h : SureSt w0 w g W F S d want) {B k : Nat} (hB : ∀ x, F x ∨ S x → x ≠ B) (hWB : W ≠ B) (hb : w0.heap.size ≤ B) (u : Value) : SureSt w0 (w.setCell ⟨B, k, none⟩ u) g W F S d want where
  dev := h.dev.chg (G := fun x => x = B) ((Chg.refl (fun x => x = B) w).setCell (p := ⟨B, k, none⟩) (Or.inl rfl) _) (fun x hx => hB x (.inl hx))
  row := h.row.chg ((Chg.refl (fun x => x = B) w).setCell (p := ⟨B, k, none⟩) (Or.inl rfl) _) (fun x hx e => by injection hx with hx; simp only at hx; omega) (fun x hx => hB x (.inr hx))
  apart := h.apart
  below := h.below.setCell hb _
theorem SureSt.widen (h : SureSt w0 w g W F S d want) {b : Nat} (hb : b < w.heap.size) (hF : ¬ F b) (hW : b ≠ W) : SureSt w0 w g W F (fun x => S x ∨ x = b) d want where
  dev := h.dev
  row := h.row.widen (fun x hx => .inl hx) (fun x hx => by
    rcases hx with hx | hx
    · exact h.row.S_lt x hx
    · subst hx
      exact ⟨hb, fun e => by injection e with e; simp only at e; omega⟩)
  apart := fun x hx => ⟨(h.apart x hx).1, fun hs => hs.elim (h.apart x hx).2 (fun e => by subst e; exact hF hx)⟩
  below := h.below
end
end Go.Proofs.Ytjpkddmdhdmhgaa
