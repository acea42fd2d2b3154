/- Parts of a proof, joined: CutPlain, CutReach, Cut1, Cut2, Cut3, Ans07. -/
import Derived.Deep.CutBlock
import Derived.Deep.DeepCutAuto
import Derived.Test.YtmkfjddighabcaaM15
/- cut.Fit, in plain Lean: a message's bytes, with less, if they are too many. No program in it. -/
namespace Go.Proofs.Ytmkfjddighabcaa
open Go.RowKit
set_option maxRecDepth 100000

/-- Are two records of one name and type? -/
def sameNT (a b : RR) : Bool := decide (a.type = b.type) && decide (lowN a.name = lowN b.name)
/-- How many records at the end, of n in all, are of one name and type with the last one; looked at from the k-th on. -/
def lastK (l : List RR) (x : RR) : Nat → Nat
  | 0 => 0
  | n + 1 => match l[n]? with
    | some r => if sameNT r x = true then lastK l x n else n + 1
    | none => n + 1
theorem lastK_le (l : List RR) (x : RR) (n : Nat) : lastK l x n ≤ n := by
  induction n with
  | zero => exact Nat.le_refl _
  | succ n ih =>
    unfold lastK
    split
    · split
      · omega
      · exact Nat.le_refl _
    · exact Nat.le_refl _
/-- A message with something left out; none: there is nothing to leave out. -/
def lessM (m : Ms) : Option Ms :=
  if 0 < m.ex.length then some { m with ex := m.ex.take (m.ex.length - 1) }
  else if 0 < m.au.length then some { m with tc := true, au := m.au.take (m.au.length - 1) }
  else match m.an[m.an.length - 1]? with
    | none => none
    | some x => some { m with tc := true, an := m.an.take (lastK m.an x (m.an.length - 1)) }
def cntM (m : Ms) : Nat := m.an.length + m.au.length + m.ex.length
theorem lessM_cnt {m m' : Ms} (h : lessM m = some m') : cntM m' < cntM m := by
  unfold lessM at h
  split at h
  · injection h with h
    subst h
    show m.an.length + m.au.length + (m.ex.take (m.ex.length - 1)).length < m.an.length + m.au.length + m.ex.length
    rw [List.length_take]
    omega
  · split at h
    · injection h with h
      subst h
      show m.an.length + (m.au.take (m.au.length - 1)).length + m.ex.length < m.an.length + m.au.length + m.ex.length
      rw [List.length_take]
      omega
    · split at h
      · cases h
      · rename_i x hx
        injection h with h
        subst h
        have h1 := (List.getElem?_eq_some_iff.1 hx).1
        have h2 := lastK_le m.an x (m.an.length - 1)
        show (m.an.take (lastK m.an x (m.an.length - 1))).length + m.au.length + m.ex.length < m.an.length + m.au.length + m.ex.length
        rw [List.length_take]
        omega
theorem lessM_fine {m m' : Ms} (hf : FineM m) (h : lessM m = some m') : FineM m' ∧ bytesM m' ≤ bytesM m := by
  have ht := hf.tot
  unfold totM at ht
  unfold lessM at h
  split at h
  · injection h with h
    subst h
    have hl : (m.ex.take (m.ex.length - 1)).length ≤ m.ex.length := List.length_take_le' _ _
    have hb := bytesL_take m.ex (m.ex.length - 1)
    refine ⟨⟨by show m.qs.length + m.an.length + m.au.length + (m.ex.take (m.ex.length - 1)).length ≤ 512; omega, hf.id, hf.op0, hf.op, hf.rc0, hf.rc, hf.size, hf.edns, hf.qs, hf.an, hf.au, fineK_take hf.ex _⟩, ?_⟩
    show bytesL m.an + bytesL m.au + bytesL (m.ex.take (m.ex.length - 1)) ≤ bytesL m.an + bytesL m.au + bytesL m.ex
    omega
  · split at h
    · injection h with h
      subst h
      have hl : (m.au.take (m.au.length - 1)).length ≤ m.au.length := List.length_take_le' _ _
      have hb := bytesL_take m.au (m.au.length - 1)
      refine ⟨⟨by show m.qs.length + m.an.length + (m.au.take (m.au.length - 1)).length + m.ex.length ≤ 512; omega, hf.id, hf.op0, hf.op, hf.rc0, hf.rc, hf.size, hf.edns, hf.qs, hf.an, fineK_take hf.au _, hf.ex⟩, ?_⟩
      show bytesL m.an + bytesL (m.au.take (m.au.length - 1)) + bytesL m.ex ≤ bytesL m.an + bytesL m.au + bytesL m.ex
      omega
    · split at h
      · cases h
      · rename_i x hx
        injection h with h
        subst h
        have hl : (m.an.take (lastK m.an x (m.an.length - 1))).length ≤ m.an.length := List.length_take_le' _ _
        have hb := bytesL_take m.an (lastK m.an x (m.an.length - 1))
        refine ⟨⟨by show m.qs.length + (m.an.take (lastK m.an x (m.an.length - 1))).length + m.au.length + m.ex.length ≤ 512; omega, hf.id, hf.op0, hf.op, hf.rc0, hf.rc, hf.size, hf.edns, hf.qs, fineK_take hf.an _, hf.au, hf.ex⟩, ?_⟩
        show bytesL (m.an.take (lastK m.an x (m.an.length - 1))) + bytesL m.au + bytesL m.ex ≤ bytesL m.an + bytesL m.au + bytesL m.ex
        omega
/-- The bytes within a size, and the error. -/
noncomputable def cutM (size : Int) (m : Ms) : List UInt8 × Int :=
  if ((msW m).b.length : Int) ≤ size then ((msW m).b, 0)
  else match _h : lessM m with
    | none => ([], 4)
    | some m' => cutM size m'
termination_by cntM m
decreasing_by exact lessM_cnt _h
theorem cutM_fits {size : Int} {m : Ms} (h : ((msW m).b.length : Int) ≤ size) : cutM size m = ((msW m).b, 0) := by rw [cutM, if_pos h]
theorem cutM_none {size : Int} {m : Ms} (h : ¬ ((msW m).b.length : Int) ≤ size) (hn : lessM m = none) : cutM size m = ([], 4) := by
  rw [cutM, if_neg h]
  split
  · rfl
  · rename_i m' h'; rw [hn] at h'; cases h'
theorem cutM_less {size : Int} {m m' : Ms} (h : ¬ ((msW m).b.length : Int) ≤ size) (hn : lessM m = some m') : cutM size m = cutM size m' := by
  rw [cutM, if_neg h]
  split
  · rename_i h'; rw [hn] at h'; cases h'
  · rename_i m2 h'; rw [hn] at h'; injection h' with h'; rw [h']
/-- What cut.Fit answers. -/
noncomputable def fitP (m : Ms) (size : Int) : List UInt8 × Int :=
  if size < 512 ∨ 65535 < size then ([], 1) else if fineM m = true then cutM size m else ([], 2)
end Go.Proofs.Ytmkfjddighabcaa

/- What cut.Fit leaves of a message, in plain Lean: a beginning of each section; with a greater size not less. No program in it. -/
namespace Go.Proofs.Ytmkfjddighabcaa
open Go.RowKit
set_option maxRecDepth 100000

theorem sameNT_iff {a b : RR} : sameNT a b = true ↔ a.type = b.type ∧ lowN a.name = lowN b.name := by unfold sameNT; simp
/-- From lastK on all are like the last one, the one ahead is not. -/
theorem lastK_like (l : List RR) (x : RR) (n : Nat) : (∀ j r, lastK l x n ≤ j → j < n → l[j]? = some r → sameNT r x = true) ∧ (∀ r, 0 < lastK l x n → l[lastK l x n - 1]? = some r → sameNT r x = false) := by
  induction n with
  | zero => exact ⟨fun j r h1 h2 => by omega, fun r h => by simp [lastK] at h⟩
  | succ n ih =>
    unfold lastK
    split
    · rename_i r0 hr0
      split
      · rename_i hs
        refine ⟨fun j r h1 h2 h3 => ?_, ih.2⟩
        by_cases hj : j = n
        · subst hj
          rw [hr0] at h3
          injection h3 with h3
          rw [← h3]
          exact hs
        · exact ih.1 j r h1 (by omega) h3
      · rename_i hs
        refine ⟨fun j r h1 h2 => by omega, fun r _ h3 => ?_⟩
        rw [Nat.add_sub_cancel, hr0] at h3
        injection h3 with h3
        rw [← h3]
        simpa using hs
    · rename_i hr0
      exact ⟨fun j r h1 h2 => by omega, fun r _ h3 => by rw [Nat.add_sub_cancel, hr0] at h3; cases h3⟩
/-- What is left of m0: so many records of each section. -/
structure Part (m0 m : Ms) (k j i : Nat) : Prop where
  e : m = { m0 with tc := m.tc, an := m0.an.take k, au := m0.au.take j, ex := m0.ex.take i }
  hk : k ≤ m0.an.length
  hj : j ≤ m0.au.length
  hi : i ≤ m0.ex.length
  ex : 0 < i → j = m0.au.length ∧ k = m0.an.length
  au : 0 < j → k = m0.an.length
  tc : m.tc = (m0.tc || !(decide (k = m0.an.length) && decide (j = m0.au.length)))
  bnd : k = m0.an.length ∨ k = 0 ∨ ∀ a b, m0.an[k]? = some a → m0.an[k - 1]? = some b → sameNT a b = false
theorem Part.whole (m : Ms) : Part m m m.an.length m.au.length m.ex.length :=
  ⟨by cases m; simp, Nat.le_refl _, Nat.le_refl _, Nat.le_refl _, fun _ => ⟨rfl, rfl⟩, fun _ => rfl, by simp, .inl rfl⟩
theorem Part.lens {m0 m : Ms} {k j i : Nat} (h : Part m0 m k j i) : m.an.length = k ∧ m.au.length = j ∧ m.ex.length = i := by
  have e := h.e
  refine ⟨?_, ?_, ?_⟩
  · rw [e]; show (m0.an.take k).length = k; rw [List.length_take]; have := h.hk; omega
  · rw [e]; show (m0.au.take j).length = j; rw [List.length_take]; have := h.hj; omega
  · rw [e]; show (m0.ex.take i).length = i; rw [List.length_take]; have := h.hi; omega
theorem Part.less {m0 m m' : Ms} {k j i : Nat} (h : Part m0 m k j i) (hl : lessM m = some m') : ∃ k' j' i', Part m0 m' k' j' i' ∧ k' ≤ k ∧ j' ≤ j ∧ i' ≤ i ∧ (m.tc = true → m'.tc = true) := by
  obtain ⟨la, lu, lx⟩ := h.lens
  have e := h.e
  have ea : m.an = m0.an.take k := by rw [e]
  have eu : m.au = m0.au.take j := by rw [e]
  have ex : m.ex = m0.ex.take i := by rw [e]
  have hk := h.hk
  have hj := h.hj
  have hi := h.hi
  unfold lessM at hl
  split at hl
  · rename_i h1
    injection hl with hl
    rw [lx] at h1
    obtain ⟨q1, q2⟩ := h.ex h1
    refine ⟨k, j, i - 1, ⟨?_, hk, hj, by omega, fun _ => ⟨q1, q2⟩, h.au, ?_, h.bnd⟩, Nat.le_refl _, Nat.le_refl _, by omega, fun ht => by rw [← hl]; exact ht⟩
    · rw [← hl, lx, ex, List.take_take, Nat.min_eq_left (by omega)]
      show ({ m with ex := m0.ex.take (i - 1) } : Ms) = _
      rw [← ea, ← eu]
      have e2 : m = { m0 with tc := m.tc, an := m.an, au := m.au, ex := m.ex } := by rw [ea, eu, ex]; exact e
      generalize m.tc = t at e2
      generalize m.an = a at e2
      generalize m.au = u at e2
      rw [e2]
    · rw [← hl]; exact h.tc
  · rename_i h1
    rw [lx] at h1
    split at hl
    · rename_i h2
      injection hl with hl
      rw [lu] at h2
      have q := h.au h2
      refine ⟨k, j - 1, i, ⟨?_, hk, by omega, hi, fun h3 => absurd h3 h1, fun _ => q, ?_, h.bnd⟩, Nat.le_refl _, by omega, Nat.le_refl _, fun _ => by rw [← hl]⟩
      · rw [← hl, lu, eu, List.take_take, Nat.min_eq_left (by omega)]
        show ({ m with tc := true, au := m0.au.take (j - 1) } : Ms) = _
        rw [← ea, ← ex]
        have e2 : m = { m0 with tc := m.tc, an := m.an, au := m.au, ex := m.ex } := by rw [ea, eu, ex]; exact e
        generalize m.tc = t at e2
        generalize m.an = a at e2
        generalize m.ex = u at e2
        rw [e2]
      · rw [← hl]
        have : ¬ j - 1 = m0.au.length := by omega
        simp [this]
    · rename_i h2
      rw [lu] at h2
      split at hl
      · cases hl
      · rename_i x hx
        injection hl with hl
        have hk0 : 0 < k := by
          have := (List.getElem?_eq_some_iff.1 hx).1
          omega
        rw [la] at hx hl
        obtain ⟨g, hg⟩ : ∃ g, g = lastK m.an x (k - 1) := ⟨_, rfl⟩
        have hgl := lastK_le m.an x (k - 1)
        obtain ⟨b1, b2⟩ := lastK_like m.an x (k - 1)
        rw [← hg] at hgl b1 b2 hl
        have hat : ∀ p, p < k → m.an[p]? = m0.an[p]? := fun p hp => by rw [ea, List.getElem?_take, if_pos hp]
        refine ⟨g, j, i, ⟨?_, by omega, hj, hi, fun h3 => absurd h3 h1, fun h3 => absurd h3 h2, ?_, ?_⟩, by omega, Nat.le_refl _, Nat.le_refl _, fun _ => by rw [← hl]⟩
        · rw [← hl, ea, List.take_take, Nat.min_eq_left (by omega)]
          show ({ m with tc := true, an := m0.an.take g } : Ms) = _
          rw [← eu, ← ex]
          have e2 : m = { m0 with tc := m.tc, an := m.an, au := m.au, ex := m.ex } := by rw [ea, eu, ex]; exact e
          generalize m.tc = t at e2
          generalize m.au = a at e2
          generalize m.ex = u at e2
          rw [e2]
        · rw [← hl]
          have : ¬ g = m0.an.length := by omega
          simp [this]
        · by_cases h0 : g = 0
          · exact .inr (.inl h0)
          · refine .inr (.inr fun a b ha hb => ?_)
            have hb' := b2 b (by omega) (by rw [hat _ (by omega)]; exact hb)
            have ha' : sameNT a x = true := by
              by_cases hgk : g = k - 1
              · rw [← hat _ (by omega), hgk, hx] at ha
                injection ha with ha
                rw [ha]
                exact sameNT_iff.2 ⟨rfl, rfl⟩
              · exact b1 g a (Nat.le_refl _) (by omega) (by rw [hat _ (by omega)]; exact ha)
            cases hab : sameNT a b with
            | false => rfl
            | true =>
              have h1 := sameNT_iff.1 ha'
              have h2 := sameNT_iff.1 hab
              have h3 : sameNT b x = true := sameNT_iff.2 ⟨h2.1.symm.trans h1.1, h2.2.symm.trans h1.2⟩
              rw [hb'] at h3
              cases h3
/-- What is left within a size. -/
noncomputable def cutT (size : Int) (m : Ms) : Option Ms :=
  if ((msW m).b.length : Int) ≤ size then some m
  else match _h : lessM m with
    | none => none
    | some m' => cutT size m'
termination_by cntM m
decreasing_by exact lessM_cnt _h
theorem cutT_fits {size : Int} {m : Ms} (h : ((msW m).b.length : Int) ≤ size) : cutT size m = some m := by rw [cutT, if_pos h]
theorem cutT_none {size : Int} {m : Ms} (h : ¬ ((msW m).b.length : Int) ≤ size) (hn : lessM m = none) : cutT size m = none := by
  rw [cutT, if_neg h]
  split
  · rfl
  · rename_i m' h'; rw [hn] at h'; cases h'
theorem cutT_less {size : Int} {m m' : Ms} (h : ¬ ((msW m).b.length : Int) ≤ size) (hn : lessM m = some m') : cutT size m = cutT size m' := by
  rw [cutT, if_neg h]
  split
  · rename_i h'; rw [hn] at h'; cases h'
  · rename_i m2 h'; rw [hn] at h'; injection h' with h'; rw [h']
theorem cutM_T (size : Int) (m : Ms) : cutM size m = match cutT size m with | none => ([], 4) | some x => ((msW x).b, 0) := by
  fun_induction cutT size m with
  | case1 m h => rw [cutM_fits h]
  | case2 m h hn => rw [cutM_none h hn]
  | case3 m h m' hn ih => rw [cutM_less h hn]; exact ih
/-- What is left is a part, and fits. -/
theorem cutT_part {size : Int} {m0 m x : Ms} : ∀ {k j i : Nat}, Part m0 m k j i → cutT size m = some x → (∃ k' j' i', Part m0 x k' j' i' ∧ k' ≤ k ∧ j' ≤ j ∧ i' ≤ i ∧ (m.tc = true → x.tc = true)) ∧ ((msW x).b.length : Int) ≤ size := by
  fun_induction cutT size m with
  | case1 m h => intro k j i hp hx; injection hx with hx; subst hx; exact ⟨⟨k, j, i, hp, Nat.le_refl _, Nat.le_refl _, Nat.le_refl _, fun h => h⟩, h⟩
  | case2 m h hn => intro k j i hp hx; cases hx
  | case3 m h m' hn ih =>
    intro k j i hp hx
    obtain ⟨k1, j1, i1, hp1, a1, a2, a3, a4⟩ := hp.less hn
    obtain ⟨⟨k2, j2, i2, hp2, b1, b2, b3, b4⟩, hl⟩ := ih hp1 hx
    exact ⟨⟨k2, j2, i2, hp2, by omega, by omega, by omega, fun h => b4 (a4 h)⟩, hl⟩
theorem cutT_fine {size : Int} {m x : Ms} : FineM m → cutT size m = some x → FineM x ∧ bytesM x ≤ bytesM m := by
  fun_induction cutT size m with
  | case1 m h => intro hf hx; injection hx with hx; subst hx; exact ⟨hf, Nat.le_refl _⟩
  | case2 m h hn => intro hf hx; cases hx
  | case3 m h m' hn ih =>
    intro hf hx
    obtain ⟨h1, h2⟩ := lessM_fine hf hn
    obtain ⟨h3, h4⟩ := ih h1 hx
    exact ⟨h3, Nat.le_trans h4 h2⟩
/-- Within a greater size there is not less. -/
theorem cutT_more {n k : Int} {m x : Ms} (hnk : n ≤ k) : cutT n m = some x → ∃ y, cutT k m = some y ∧ cutT n y = some x ∧ (msW x).b.length ≤ (msW y).b.length := by
  fun_induction cutT k m with
  | case1 m h =>
    intro hx
    refine ⟨m, rfl, hx, ?_⟩
    by_cases h1 : ((msW m).b.length : Int) ≤ n
    · rw [cutT_fits h1] at hx
      injection hx with hx
      rw [hx]
      exact Nat.le_refl _
    · have := (cutT_part (Part.whole m) hx).2
      omega
  | case2 m h hn =>
    intro hx
    rw [cutT_none (by omega) hn] at hx
    cases hx
  | case3 m h m' hn ih =>
    intro hx
    rw [cutT_less (by omega) hn] at hx
    exact ih hx
theorem fitP_T {m : Ms} {size : Int} (hf : FineM m) (h1 : 512 ≤ size) (h2 : size ≤ 65535) : fitP m size = match cutT size m with | none => ([], 4) | some x => ((msW x).b, 0) := by
  unfold fitP
  rw [if_neg (by omega), if_pos (fineM_yes hf), cutM_T]
end Go.Proofs.Ytmkfjddighabcaa

/- cut.last: how many records at the end of a list are of one name and type. -/
namespace Go.Proofs.Ytmkfjddighabcaa
open Go.RowKit
set_option maxRecDepth 100000
set_option linter.unusedVariables false

theorem lastK_go {l : List RR} {x r : RR} {k : Nat} (h : l[k]? = some r) (hs : sameNT r x = true) : lastK l x (k + 1) = lastK l x k := by rw [lastK, h]; simp [hs]
theorem lastK_stop {l : List RR} {x r : RR} {k : Nat} (h : l[k]? = some r) (hs : sameNT r x = false) : lastK l x (k + 1) = k + 1 := by rw [lastK, h]; simp [hs]

set_option maxHeartbeats 8000000 in
theorem last_any (A : Option Addr) (N c : Nat) (xs : List RR) (x : RR) (w : World) {So Si : Nat → Prop} (h : Els encRR So Si w A (N + 1) xs) (hx : xs[N]? = some x) (hSo : ∀ b, So b → b < w.heap.size) (hSi : ∀ b, Si b → b < w.heap.size) (hN : N ≤ 1000000) (hc : N + 1 ≤ c) :
    Calls Try.prog 107 #[.slice A (N + 1) c] w (RetP (fun v _ => v = .int .i64 ((N + 1 - lastK xs x N : Nat) : Int)) w) := by
  have hlen := h.len
  have HA := Lib.hid h
  have HSO : Hid (∀ b, So b → b < w.heap.size) := hSo
  have HSI : Hid (∀ b, Si b → b < w.heap.size) := hSi
  obtain ⟨g, off, t, rfl, hg, hri, hrc⟩ := rr_at h hx
  have HX := Lib.hid hx
  have HRX := Lib.hid hri
  have HCX := Lib.hid hrc
  have HGO := Lib.hid (hSo g hg)
  have HLX := Lib.hid hlen
  clear h hx hSo hSi hri hrc hg hlen
  go_enter Try.func107, Try.ntmps107
  go_wp2
  go_loopw [4] (fun i wr => ∃ a b : Nat, i = .int .i64 (a : Int) ∧ a + b = N + 1 ∧ 1 ≤ a ∧ Hid (lastK xs x N = lastK xs x b) ∧ Hid (Below w.heap.size w wr)) (fun i _ => N + 2 - (intOf i).toNat)
  case atStart => exact ⟨1, N, rfl, Nat.add_comm _ _, Nat.le_refl _, rfl, bl⟩
  case round =>
    obtain ⟨a, b, rfl, hab, ha1, HK, HBW⟩ := hrel
    rcases b with _ | b
    · have hK : lastK xs x N = 0 := HK.out
      have haN : ¬ (a : Int) ≤ (N : Int) := by omega
      have hN2 : decide ((a : Int) ≤ (N : Int)) = false := decide_eq_false haN
      have hN3 : decide (a ≤ N) = false := decide_eq_false (by omega)
      have hN4 : ¬ a ≤ N := by omega
      rw [hK]
      go_wp2
      go_quiet (fail)
      go_wp2
      go_ret
      exact ⟨_, rfl, by show Value.int _ _ = Value.int _ _; congr 1; omega, dN HBW.out nq⟩
    · have hsub : (N : Int) - (a : Int) = (b : Int) := by omega
      have haN : (a : Int) ≤ (N : Int) := by omega
      have haD : decide ((a : Int) ≤ (N : Int)) = true := decide_eq_true haN
      have haD2 : decide (a ≤ N) = true := decide_eq_true (by omega)
      have haD3 : a ≤ N := by omega
      have hbn : b < N + 1 := by omega
      have hbi : (b : Int) < (N : Int) + 1 := by omega
      obtain ⟨r, hr⟩ : ∃ r, xs[b]? = some r := ⟨_, List.getElem?_eq_getElem (by rw [HLX.out]; exact hbn)⟩
      obtain ⟨g', off', tr, he, hg', hri, hrc⟩ := rr_at HA.out hr
      injection he with he
      injection he with he1 he2
      subst he1 he2
      have HRR := Lib.hid (hri.below HBW.out HSI.out)
      have HRX2 := Lib.hid (HRX.out.below HBW.out HSI.out)
      have HSW : Hid (∀ b, Si b → b < wr.heap.size) := fun b hb => Nat.lt_of_lt_of_le (HSI.out b hb) HBW.out.size
      obtain ⟨d0, d1, _⟩ := hrc.below HBW.out
      obtain ⟨e0, e1, _⟩ := HCX.out.below HBW.out
      have HR := Lib.hid hr
      clear hr hri hrc hg'
      by_cases hty : r.type = x.type
      rotate_left
      · have hst : sameNT r x = false := by unfold sameNT; simp [hty]
        have hK : lastK xs x N = b + 1 := HK.out.trans (lastK_stop HR.out hst)
        have htb : (r.type == x.type) = false := by simp [hty]
        rw [hK]
        clear hst hty
        go_wp2
        go_quiet (fail)
        go_wp2
        go_ret
        exact ⟨_, rfl, by show Value.int _ _ = Value.int _ _; congr 1; omega, dN HBW.out nq⟩
      · have htb : (r.type == x.type) = true := by simp [hty]
        have q0 : ∀ w', Below wr.heap.size wr w' → (w'.cell? ⟨g, off + b * 9 + 1, none⟩ = some (.int .i64 r.type) ∧ w'.cell? ⟨g, off + N * 9 + 1, none⟩ = some (.int .i64 x.type) ∧ w'.cell? ⟨g, off + b * 9, none⟩ = some (.slice tr.A r.name.length tr.c) ∧ w'.cell? ⟨g, off + N * 9, none⟩ = some (.slice t.A x.name.length t.c)) := fun w' hb => ⟨below_cell hb d1, below_cell hb e1, below_cell hb d0, below_cell hb e0⟩
        have q1 := q0 wr bl
        have q2 := q0 wr.drew bl.drew
        have HQ := Lib.hid q0
        obtain ⟨bn, hbn2⟩ : ∃ bn, bn = decide (lowN r.name = lowN x.name) := ⟨_, rfl⟩
        have HBN := Lib.hid hbn2
        have HTY := Lib.hid hty
        clear q0 d0 d1 e0 e1 hbn2
        have hw1 : IntKind.i64.wrap (b : Int) = (b : Int) := by rw [IntKind.wrap_i64]; omega
        have hw3 : wrap64 (b : Int) = (b : Int) := by unfold wrap64; omega
        have HNR : Hid (RdE encS wr tr.A r.name.length r.name) := HRR.out.n.mono HSW.out HSW.out
        have HNX : Hid (RdE encS wr t.A x.name.length x.name) := HRX2.out.n.mono HSW.out HSW.out
        have hb0 : (0 : Int) ≤ (b : Int) := by omega
        have hN0 : (0 : Int) ≤ (N : Int) := by omega
        have hN1 : (N : Int) < (N : Int) + 1 := by omega
        have hNn : N < N + 1 := by omega
        have htb1 : (b : Int).toNat = b := by omega
        have htN1 : (N : Int).toNat = N := by omega
        have hty2 : x.type = r.type := hty.symm
        clear hty
        go_wp2
        go_region_held3 (fun w' => w'.cell? ⟨g, off + b * 9 + 1, none⟩ = some (.int .i64 r.type) ∧ w'.cell? ⟨g, off + N * 9 + 1, none⟩ = some (.int .i64 x.type) ∧ w'.cell? ⟨g, off + b * 9, none⟩ = some (.slice tr.A r.name.length tr.c) ∧ w'.cell? ⟨g, off + N * 9, none⟩ = some (.slice t.A x.name.length t.c))
          (first
            | with_reducible exact q1
            | with_reducible exact q2
            | with_reducible exact q3
            | fail)
          (first
            | (go_at_call 63; go_must (refine (nequal_any tr.A t.A r.name.length tr.c x.name.length t.c r.name x.name wr.drew (RdE.below HNR.out bl.drew) (RdE.below HNX.out bl.drew) (Nat.le_trans HRR.out.cn.1 HRR.out.cn.2) (Nat.le_trans HRX2.out.cn.1 HRX2.out.cn.2)).mono ?_; rw [← HBN.out]; rintro e w7 ⟨v7, rfl, rfl, hb7⟩; have q3 := HQ.out w7 (bl.drew.trans hb7)))
            | fail)
        have HB7 := Lib.hid (nx HBW.out (bl.drew.trans hb7))
        clear q1 q2 q3
        cases bn with
        | false =>
          have hst : sameNT r x = false := by unfold sameNT; rw [← HBN.out]; simp
          have hK : lastK xs x N = b + 1 := HK.out.trans (lastK_stop HR.out hst)
          go_wp2
          go_ret
          exact ⟨_, rfl, by show Value.int _ _ = Value.int _ _; rw [hK]; congr 1; omega, HB7.out⟩
        | true =>
          have hst : sameNT r x = true := by unfold sameNT; rw [← HBN.out, HTY.out]; simp
          have HK2 := Lib.hid (HK.out.trans (lastK_go HR.out hst))
          clear hst
          go_wp2
          go_roundw
          case rel => exact ⟨a + 1, b, by go_num, by omega, by omega, HK2.out, HB7.out⟩
          case measure => simp [intOf]; omega
end Go.Proofs.Ytmkfjddighabcaa

/- cut.less: something is left out. -/
namespace Go.Proofs.Ytmkfjddighabcaa
open Go.RowKit
set_option maxRecDepth 100000
set_option linter.unusedVariables false

def LessX (r : Option Ms) (S : Nat → Prop) (w : World) (q : Nat) (e : Ending) (w' : World) : Prop :=
  match r with
  | some m' => ∃ s', e = .returned (.bool true) ∧ MRow w' q s' m' ∧ MIn S w' s' m' ∧ Chg (fun z => z = q) w w'
  | none => e = .returned (.bool false) ∧ Chg (fun z => z = q) w w'
theorem lessM_ex {m : Ms} {k : Nat} (h : m.ex.length = k + 1) : lessM m = some { m with ex := m.ex.take k } := by
  unfold lessM
  rw [if_pos (by omega), h]
  rfl
theorem lessM_au {m : Ms} {k : Nat} (h0 : m.ex.length = 0) (h : m.au.length = k + 1) : lessM m = some { m with tc := true, au := m.au.take k } := by
  unfold lessM
  rw [if_neg (by omega), if_pos (by omega), h]
  rfl
theorem lessM_no {m : Ms} (h0 : m.ex.length = 0) (h1 : m.au.length = 0) (h2 : m.an.length = 0) : lessM m = none := by
  unfold lessM
  rw [if_neg (by omega), if_neg (by omega), List.getElem?_eq_none (by omega)]
theorem lessM_an {m : Ms} {k : Nat} {x : RR} (h0 : m.ex.length = 0) (h1 : m.au.length = 0) (h2 : m.an.length = k + 1) (hx : m.an[k]? = some x) : lessM m = some { m with tc := true, an := m.an.take (lastK m.an x k) } := by
  unfold lessM
  rw [if_neg (by omega), if_neg (by omega), h2, Nat.add_sub_cancel, hx]

theorem take_cells11 (s : MS) (m : Ms) (k : Nat) (h : m.ex.length = k + 1) : (mCells s m).setIfInBounds 11 (.slice s.X k k) = mCells { s with xc := k } { m with ex := m.ex.take k } := by
  have hlen : (m.ex.take k).length = k := by rw [List.length_take]; omega
  show _ = mCells _ _
  unfold mCells
  simp only [hlen]
  rfl
theorem take_cells10 (s : MS) (m : Ms) (k : Nat) (h : m.au.length = k + 1) : (mCells s { m with tc := true }).setIfInBounds 10 (.slice s.U k k) = mCells { s with uc := k } { m with tc := true, au := m.au.take k } := by
  have hlen : (m.au.take k).length = k := by rw [List.length_take]; omega
  show _ = mCells _ _
  unfold mCells
  simp only [hlen]
  rfl
theorem take_cells9 (s : MS) (m : Ms) (k : Nat) (h : k ≤ m.an.length) : (mCells s { m with tc := true }).setIfInBounds 9 (.slice s.A k k) = mCells { s with ac := k } { m with tc := true, an := m.an.take k } := by
  have hlen : (m.an.take k).length = k := by rw [List.length_take]; omega
  show _ = mCells _ _
  unfold mCells
  simp only [hlen]
  rfl

set_option maxHeartbeats 8000000 in
theorem less_any (w : World) (q : Nat) (s : MS) (m : Ms) {S : Nat → Prop} (hR : MRow w q s m) (hI : MIn S w s m) (hS : ∀ b, S b → b < w.heap.size) (hq : ∀ b, S b → b ≠ q) (ha : m.an.length ≤ 1000000) (hu : m.au.length ≤ 1000000) (hx : m.ex.length ≤ 1000000) :
    Calls Try.prog 65 #[.pointer (some ⟨q, 0, none⟩)] w (LessX (lessM m) S w q) := by
  obtain ⟨z0, z1, z2, z3, z4, z5, z6, z7, z8, z9, z10, z11, z12, z13⟩ := hR.cells
  have ff := hR.free
  have HR := Lib.hid hR
  have HI := Lib.hid hI
  have HS : Hid (∀ b, S b → b < w.heap.size) := hS
  have HQ : Hid (∀ b, S b → b ≠ q) := hq
  clear hR hI hS hq z0 z1 z2 z3 z5 z6 z7 z8 z12 z13
  by_cases h0 : m.ex.length = 0
  rotate_left
  · obtain ⟨k, hk⟩ : ∃ k, m.ex.length = k + 1 := ⟨m.ex.length - 1, by omega⟩
    have HL := Lib.hid (lessM_ex hk)
    have hcap := HI.out.cx.1
    have hcm := HI.out.cx.2
    rw [hk] at z11 hcap hx
    have hkc : k ≤ s.xc := by omega
    have hkc2 : (k : Int) ≤ (s.xc : Int) := by omega
    have hk0 : (0 : Int) < (k : Int) + 1 := by omega
    have HK := Lib.hid hk
    clear h0 hk ha hu
    go_enter Try.func65, Try.ntmps65
    go_wp2
    go_ret
    have hR' : MRow (w.setCell ⟨q, 11, none⟩ (.slice s.X k k)) q { s with xc := k } { m with ex := m.ex.take k } := HR.out.put 11 _ _ _ (take_cells11 s m k HK.out)
    have hc : Chg (fun z => z = q) w (w.setCell ⟨q, 11, none⟩ (.slice s.X k k)) := chg_g1 _ _ _ _
    have h1 := HI.out.chg hc (fun b hb => ⟨HS.out b hb, HQ.out b hb⟩)
    have hlen : (m.ex.take k).length = k := by rw [List.length_take]; have := HK.out; omega
    rw [HL.out]
    refine ⟨_, rfl, hR', ⟨h1.q, h1.a, h1.u, ?_, h1.cq, h1.ca, h1.cu, ?_, h1.ii, h1.io, h1.ir, h1.is⟩, hc⟩
    · show Els encRR S S _ s.X (m.ex.take k).length (m.ex.take k)
      rw [hlen]
      exact h1.x.take (by have := HK.out; omega)
    · show (m.ex.take k).length ≤ k ∧ k ≤ maxLen
      rw [hlen]
      exact ⟨Nat.le_refl _, Nat.le_trans hkc hcm⟩
  · rw [h0] at z11
    obtain ⟨w1, hw1⟩ : ∃ u, u = w.setCell ⟨q, 4, none⟩ (.bool true) := ⟨_, rfl⟩
    have hR1 : MRow w1 q s { m with tc := true } := by rw [hw1]; exact HR.out.put 4 _ _ _ rfl
    have hc1 : Chg (fun z => z = q) w w1 := by rw [hw1]; exact chg_g1 _ _ _ _
    have HR1 := Lib.hid hR1
    have HC1 := Lib.hid hc1
    have HI1 := Lib.hid (HI.out.chg hc1 (fun b hb => ⟨HS.out b hb, HQ.out b hb⟩))
    have HS1 : Hid (∀ b, S b → b < w1.heap.size) := fun b hb => Nat.lt_of_lt_of_le (HS.out b hb) hc1.size
    have x9 : w1.cell? ⟨q, 9, none⟩ = some (.slice s.A m.an.length s.ac) := hR1.cell 9
    have x10 : w1.cell? ⟨q, 10, none⟩ = some (.slice s.U m.au.length s.uc) := hR1.cell 10
    have gg := hR1.free
    clear hR1 hc1 z9 z10
    go_enter Try.func65, Try.ntmps65
    go_upto_region 6 with (fail)
    rw [← hw1]
    clear hw1 z4 z11 ff
    by_cases h1 : m.au.length = 0
    rotate_left
    · obtain ⟨k, hk⟩ : ∃ k, m.au.length = k + 1 := ⟨m.au.length - 1, by omega⟩
      have HL := Lib.hid (lessM_au h0 hk)
      have hcap := HI.out.cu.1
      have hcm := HI.out.cu.2
      rw [hk] at x10 hcap hu
      have hkc : k ≤ s.uc := by omega
      have hkc2 : (k : Int) ≤ (s.uc : Int) := by omega
      have hk0 : (0 : Int) < (k : Int) + 1 := by omega
      have HK := Lib.hid hk
      clear h0 h1 hk ha hx
      go_wp2
      go_ret
      have hR' : MRow (w1.setCell ⟨q, 10, none⟩ (.slice s.U k k)) q { s with uc := k } { m with tc := true, au := m.au.take k } := HR1.out.put 10 _ _ _ (take_cells10 s m k HK.out)
      have hc : Chg (fun z => z = q) w (w1.setCell ⟨q, 10, none⟩ (.slice s.U k k)) := HC1.out.trans (chg_g1 _ _ _ _) (fun _ h => .inl h)
      have h1 := HI.out.chg hc (fun b hb => ⟨HS.out b hb, HQ.out b hb⟩)
      have hlen : (m.au.take k).length = k := by rw [List.length_take]; have := HK.out; omega
      rw [HL.out]
      refine ⟨_, rfl, hR', ⟨h1.q, h1.a, ?_, h1.x, h1.cq, h1.ca, ?_, h1.cx, h1.ii, h1.io, h1.ir, h1.is⟩, hc⟩
      · show Els encRR S S _ s.U (m.au.take k).length (m.au.take k)
        rw [hlen]
        exact h1.u.take (by have := HK.out; omega)
      · show (m.au.take k).length ≤ k ∧ k ≤ maxLen
        rw [hlen]
        exact ⟨Nat.le_refl _, Nat.le_trans hkc hcm⟩
    · rw [h1] at x10
      by_cases h2 : m.an.length = 0
      · have HL := Lib.hid (lessM_no h0 h1 h2)
        rw [h2] at x9
        clear h0 h1 h2 ha hx hu
        go_wp2
        go_ret
        rw [HL.out]
        exact ⟨rfl, HC1.out⟩
      · obtain ⟨k, hk⟩ : ∃ k, m.an.length = k + 1 := ⟨m.an.length - 1, by omega⟩
        obtain ⟨x, hxx⟩ : ∃ x, m.an[k]? = some x := ⟨_, List.getElem?_eq_getElem (by omega)⟩
        have HL := Lib.hid (lessM_an h0 h1 hk hxx)
        have hcap := HI.out.ca.1
        have hcm := HI.out.ca.2
        have hlk := lastK_le m.an x k
        have HEL : Hid (Els encRR S S w1 s.A (k + 1) m.an) := by have h := HI1.out.a; rw [hk] at h; exact h
        have HLAST := Lib.hid (last_any s.A k s.ac m.an x w1 HEL.out hxx HS1.out HS1.out (by omega) (by omega))
        rw [hk] at x9 hcap ha
        obtain ⟨L, hL⟩ : ∃ L, L = lastK m.an x k := ⟨_, rfl⟩
        obtain ⟨D, hD⟩ : ∃ D, D = k + 1 - L := ⟨_, rfl⟩
        rw [← hL] at HLAST HL hlk
        rw [← hD] at HLAST
        have hLc : L ≤ s.ac := by omega
        have hsub : (k : Int) + 1 - (D : Int) = (L : Int) := by omega
        have hk0 : ¬ (k : Int) + 1 = 0 := by omega
        have hLk : L ≤ k + 1 := by omega
        have HK := Lib.hid hk
        clear h0 h1 h2 hk hx hu hxx hL hD
        go_upto_region 14 with (first
          | (go_at_call 107; refine HLAST.out.mono ?_; rintro e w2 ⟨v2, rfl, rfl, hb2⟩; have HB2 := Lib.hid hb2; have y9 := below_cell hb2 x9)
          | fail)
        have gg2 := (HR1.out.below HB2.out).free
        go_wp2
        go_ret
        have hR' : MRow (w2.setCell ⟨q, 9, none⟩ (.slice s.A L L)) q { s with ac := L } { m with tc := true, an := m.an.take L } := (HR1.out.below HB2.out).put 9 _ _ _ (take_cells9 s m L (by have := HK.out; omega))
        have hc : Chg (fun z => z = q) w (w2.setCell ⟨q, 9, none⟩ (.slice s.A L L)) := (HC1.out.nx HB2.out).trans (chg_g1 _ _ _ _) (fun _ h => .inl h)
        have h1 := HI.out.chg hc (fun b hb => ⟨HS.out b hb, HQ.out b hb⟩)
        have hlen : (m.an.take L).length = L := by rw [List.length_take]; have := HK.out; omega
        rw [HL.out]
        refine ⟨_, rfl, hR', ⟨h1.q, ?_, h1.u, h1.x, h1.cq, ?_, h1.cu, h1.cx, h1.ii, h1.io, h1.ir, h1.is⟩, hc⟩
        · show Els encRR S S _ s.A (m.an.take L).length (m.an.take L)
          rw [hlen]
          exact h1.a.take (by have := HK.out; omega)
        · show (m.an.take L).length ≤ L ∧ L ≤ maxLen
          rw [hlen]
          exact ⟨Nat.le_refl _, Nat.le_trans hLc hcm⟩
end Go.Proofs.Ytmkfjddighabcaa

/- cut.Fit. -/
namespace Go.Proofs.Ytmkfjddighabcaa
open Go.RowKit
set_option maxRecDepth 100000
set_option linter.unusedVariables false

def lenC (o : Option Value) : Nat := match o with
  | some v => lenOf v
  | none => 0
/-- How many records there are, as they lie. -/
def cntW (q : Nat) (w : World) : Nat := lenC (w.cell? ⟨q, 9, none⟩) + lenC (w.cell? ⟨q, 10, none⟩) + lenC (w.cell? ⟨q, 11, none⟩)
theorem cntW_eq {w : World} {q : Nat} {s : MS} {m : Ms} (h : MRow w q s m) : cntW q w = cntM m := by
  unfold cntW
  rw [show w.cell? ⟨q, 9, none⟩ = some (.slice s.A m.an.length s.ac) from h.cell 9, show w.cell? ⟨q, 10, none⟩ = some (.slice s.U m.au.length s.uc) from h.cell 10, show w.cell? ⟨q, 11, none⟩ = some (.slice s.X m.ex.length s.xc) from h.cell 11]
  simp [lenC, lenOf, cntM]

set_option maxHeartbeats 8000000 in
theorem cutFit_any (s : MS) (m : Ms) (size : Int) (w : World) {S : Nat → Prop} (h : MIn S w s m) (hS : ∀ b, S b → b < w.heap.size) (hL : LtM m) (hb : bytesM m ≤ 200000) :
    Calls Try.prog 31 #[msV s m, .int .i64 size] w (RetP (fun v w' => ∃ bv, v = .tuple #[bv, .int .i64 (fitP m size).2] ∧ OwnB w' w.heap.size bv (fitP m size).1) w) := by
  obtain ⟨w1, hw1⟩ : ∃ w1, w1 = w.alloc (.cells (mCells s m) 25) := ⟨_, rfl⟩
  have hb1 : Below w.heap.size w w1 := by rw [hw1]; exact bl.alloc (Nat.le_refl _) _
  have HR1 : Hid (MRow w1 w.heap.size s m) := by show MRow _ _ _ _; rw [hw1]; exact MRow.made w s m
  have HB1 := Lib.hid hb1
  have HI1 := Lib.hid (h.below hb1 hS)
  have HSQ : Hid (∀ b, S b → b < w.heap.size) := hS
  have hS1 : ∀ b, S b → b < w1.heap.size := fun b hb => Nat.lt_of_lt_of_le (hS b hb) hb1.size
  have HSND := Lib.hid (mSound_any s m w1 HI1.out hS1 hL)
  have HBY := Lib.hid hb
  obtain ⟨z0, z1, z2, z3, z4, z5, z6, z7, z8, z9, z10, z11, z12, z13⟩ := HR1.out.cells
  unfold msV mCells at HSND
  unfold msV
  unfold mCells at hw1 ⊢
  clear h hS hb1 hL hb hS1
  by_cases hz1 : size < 512
  · have HF : Hid (fitP m size = ([], 1)) := by show _ = _; unfold fitP; rw [if_pos (.inl hz1)]
    clear HSND
    go_enter Try.func31, Try.ntmps31
    go_upto_region 1 with (fail)
    rw [← hw1]
    clear hw1
    go_wp2
    go_ret2
    exact ⟨_, rfl, ⟨_, (by rw [HF.out]; rfl), by rw [HF.out]; exact OwnB.nil _ _⟩, HB1.out⟩
  by_cases hz2 : 65535 < size
  · have HF : Hid (fitP m size = ([], 1)) := by show _ = _; unfold fitP; rw [if_pos (.inr hz2)]
    clear HSND
    go_enter Try.func31, Try.ntmps31
    go_upto_region 1 with (fail)
    rw [← hw1]
    clear hw1
    go_wp2
    go_ret2
    exact ⟨_, rfl, ⟨_, (by rw [HF.out]; rfl), by rw [HF.out]; exact OwnB.nil _ _⟩, HB1.out⟩
  cases hf : fineM m with
  | false =>
    have HF : Hid (fitP m size = ([], 2)) := by show _ = _; unfold fitP; rw [if_neg (by omega), hf]; rfl
    rw [hf] at HSND
    clear hf
    go_enter Try.func31, Try.ntmps31
    go_upto_region 1 with (fail)
    rw [← hw1]
    clear hw1
    go_wp2_with (first
      | (go_at_call 21; refine HSND.out.mono ?_; rintro e w2 ⟨v2, rfl, rfl, hb2⟩)
      | fail)
    go_ret2
    exact ⟨_, rfl, ⟨_, (by rw [HF.out]; rfl), by rw [HF.out]; exact OwnB.nil _ _⟩, nx HB1.out hb2⟩
  | true =>
    have HF : Hid (fitP m size = cutM size m) := by show _ = _; unfold fitP; rw [if_neg (by omega), if_pos hf]
    have HFM := Lib.hid (fineM_iff.1 hf)
    rw [hf] at HSND
    clear hf
    go_enter Try.func31, Try.ntmps31
    go_upto_region 1 with (fail)
    rw [← hw1]
    clear hw1
    generalize hq : w.heap.size = q at HR1 ⊢
    have HQ := Lib.hid hq
    clear hq z0 z1 z2 z3 z4 z5 z6 z7 z8 z9 z10 z11 z12 z13
    obtain ⟨z0, z1, z2, z3, z4, z5, z6, z7, z8, z9, z10, z11, z12, z13⟩ := HR1.out.cells
    go_wp2_with (first
      | (go_at_call 21; refine HSND.out.mono ?_; rintro e w2 ⟨v2, rfl, rfl, hb2⟩; have HB2 := Lib.hid hb2; clear hb2)
      | fail)
    go_loopw [6] (fun bv wr => ∃ (s' : MS) (m' : Ms), Hid (MRow wr q s' m') ∧ Hid (MIn S wr s' m') ∧ Hid (FineM m') ∧ Hid (bytesM m' ≤ 200000) ∧ Hid (Below w.heap.size w wr) ∧ Hid (cutM size m = cutM size m')) (fun _ wr => cntW q wr)
    case atStart => exact ⟨s, m, HR1.out.below HB2.out, HI1.out.below HB2.out (fun b hb => Nat.lt_of_lt_of_le (HSQ.out b hb) HB1.out.size), HFM.out, HBY.out, nx HB1.out HB2.out, rfl⟩
    case round =>
      clear z0 z1 z2 z3 z4 z5 z6 z7 z8 z9 z10 z11 z12 z13 HR1 HI1 HSND HB2 HB1 HFM HBY
      obtain ⟨s', m', HR, HI, HFM, HBY, HB, HE⟩ := hrel
      have HSR : Hid (∀ b, S b → b < wr.heap.size) := fun b hb => Nat.lt_of_lt_of_le (HSQ.out b hb) HB.out.size
      have HRAW := Lib.hid (mRaw_any s' m' wr HI.out HSR.out HFM.out HBY.out)
      have htot := HFM.out.tot
      unfold totM at htot
      obtain ⟨z0, z1, z2, z3, z4, z5, z6, z7, z8, z9, z10, z11, z12, z13⟩ := HR.out.cells
      unfold msV mCells at HRAW
      obtain ⟨n, hn⟩ : ∃ n, n = (msW m').b.length := ⟨_, rfl⟩
      have HN := Lib.hid hn
      have HCN := Lib.hid (cntW_eq HR.out)
      by_cases hfit : (n : Int) ≤ size
      · have HC := Lib.hid (HE.out.trans (cutM_fits (by rw [← HN.out]; exact hfit)))
        clear hn
        go_wp2_with (first
          | (go_at_call 45; refine HRAW.out.mono ?_; rintro e w3 ⟨v3, rfl, ho3, hb3⟩; obtain ⟨A3, c3, hv3, _, _, _⟩ := OwnB.form ho3; rw [← HN.out] at hv3; subst hv3; have HO3 := Lib.hid ho3; have HB3 := Lib.hid (nx HB.out hb3); clear ho3 hb3)
          | fail)
        go_ret2
        exact ⟨_, rfl, ⟨_, (by rw [HF.out, HC.out]; rfl), by rw [HF.out, HC.out]; exact HO3.out.mono HB.out.size⟩, HB3.out⟩
      · have hnf : ¬ ((msW m').b.length : Int) ≤ size := by rw [← HN.out]; exact hfit
        have HCL : Hid (∀ m2, lessM m' = some m2 → cutM size m' = cutM size m2) := fun m2 h => cutM_less hnf h
        have HCN0 : Hid (lessM m' = none → cutM size m' = ([], 4)) := fun h => cutM_none hnf h
        clear hn hnf
        go_upto_region 8 with (first
          | (go_at_call 45; refine HRAW.out.mono ?_; rintro e w3 ⟨v3, rfl, ho3, hb3⟩; obtain ⟨A3, c3, hv3, _, _, _⟩ := OwnB.form ho3; rw [← HN.out] at hv3; subst hv3; have HB3 := Lib.hid hb3; clear ho3 hb3)
          | fail)
        clear z0 z1 z2 z3 z4 z5 z6 z7 z8 z9 z10 z11 z12 z13 hfit
        have HLESS := Lib.hid (less_any w3 q s' m' (S := S) (HR.out.below HB3.out) (HI.out.below HB3.out HSR.out) (fun b hb => Nat.lt_of_lt_of_le (HSR.out b hb) HB3.out.size) (fun b hb e => by have h1 := HSQ.out b hb; have h2 := HQ.out; omega) (by omega) (by omega) (by omega))
        cases hl : lessM m' with
        | none =>
          have HC := Lib.hid (HE.out.trans (HCN0.out hl))
          rw [hl] at HLESS
          clear hl htot
          go_wp2_with (first
            | (go_at_call 65; refine HLESS.out.mono ?_; rintro e w4 ⟨rfl, hc4⟩; have HC4 := Lib.hid hc4; clear hc4)
            | fail)
          go_ret2
          exact ⟨_, rfl, ⟨_, (by rw [HF.out, HC.out]; rfl), by rw [HF.out, HC.out]; exact OwnB.nil _ _⟩, (nx HB.out HB3.out).trans (HC4.out.below (fun z hz => by rw [hz, HQ.out]; exact Nat.le_refl _) (nx HB.out HB3.out).size)⟩
        | some m2 =>
          have HC := Lib.hid (HE.out.trans (HCL.out m2 hl))
          have HLF := Lib.hid (lessM_fine HFM.out hl)
          have HLC := Lib.hid (lessM_cnt hl)
          rw [hl] at HLESS
          clear hl htot
          go_wp2_with (first
            | (go_at_call 65; refine HLESS.out.mono ?_; rintro e w4 ⟨s4, rfl, hr4, hi4, hc4⟩; have HR4 := Lib.hid hr4; have HI4 := Lib.hid hi4; have HC4 := Lib.hid hc4; clear hr4 hi4 hc4)
            | fail)
          go_roundw
          case rel => exact ⟨s4, m2, HR4.out, HI4.out, HLF.out.1, Nat.le_trans HLF.out.2 HBY.out, (nx HB.out HB3.out).trans (HC4.out.below (fun z hz => by rw [hz, HQ.out]; exact Nat.le_refl _) (nx HB.out HB3.out).size), HC.out⟩
          case measure =>
            rw [cntW_eq HR4.out, HCN.out]
            exact HLC.out
end Go.Proofs.Ytmkfjddighabcaa

/- gazetteerlaw07.answers. -/
namespace Go.Proofs.Ytmkfjddighabcaa
open Go.RowKit
set_option maxRecDepth 100000

def msC : Ms := ⟨7, false, 0, false, false, false, false, 0, [], [], [], [], false, 0⟩
theorem msC_fine : FineM msC := ⟨by decide, by decide, by decide, by decide, by decide, by decide, by decide, .inr rfl, fun _ h => (List.not_mem_nil h).elim, fun _ h => (List.not_mem_nil h).elim, fun _ h => (List.not_mem_nil h).elim, fun _ h => (List.not_mem_nil h).elim⟩
theorem msC_b : (msW msC).b = [0, 7, 0, 0, 0, 0, 0, 0, 0, 0, 0, 0] := by kernel_rfl
theorem msC_fit : fitP msC 512 = ([0, 7, 0, 0, 0, 0, 0, 0, 0, 0, 0, 0], 0) := by
  rw [fitP_T msC_fine (by decide) (by decide), cutT_fits (by rw [msC_b]; decide)]
  simp only [msC_b]
set_option maxHeartbeats 2000000 in
theorem answers07_any (w : World) : Calls Try.prog 29 #[] w (LawT w) := by
  have HE := cutFit_any MS.nil msC 512 w (MIn.short rfl rfl rfl rfl ⟨by decide, by decide⟩ ⟨by decide, by decide⟩ ⟨by decide, by decide⟩ ⟨by decide, by decide⟩) (fun _ h => h.elim) (LtM.short rfl rfl rfl rfl) (by decide)
  rw [msC_fit] at HE
  have HC : Hid (Calls Try.prog 31 #[.agg #[.int .i64 7, .bool false, .int .i64 0, .bool false, .bool false, .bool false, .bool false, .int .i64 0, .slice none 0 0, .slice none 0 0, .slice none 0 0, .slice none 0 0, .bool false, .int .i64 0], .int .i64 512] w (RetP (fun v w' => ∃ bv, v = .tuple #[bv, .int .i64 0] ∧ OwnB w' w.heap.size bv [0, 7, 0, 0, 0, 0, 0, 0, 0, 0, 0, 0]) w)) := HE
  clear HE
  go_enter Try.func29, Try.ntmps29
  go_upto_region 2 with (first
    | (go_at_call 31; refine HC.out.mono ?_; rintro e w2 ⟨v2, rfl, ⟨bv, rfl, ho⟩, hb2⟩; obtain ⟨A2, c2, hv2, hrd, _, _⟩ := OwnB.form ho; subst hv2; obtain ⟨b2, off2, hA2, hc2⟩ := RdB.flat hrd (by decide); subst hA2; have x1 : w2.cell? ⟨b2, off2 + 1, none⟩ = some (.int .u8 7) := hc2 1 7 rfl; clear hc2 hrd ho)
    | fail)
  go_wp2
  go_ret
  exact ⟨rfl, hb2⟩
end Go.Proofs.Ytmkfjddighabcaa
