/- Parts of a proof, joined: DecP, DecQ, DecR, DecS, DecT. -/
import Derived.Test.YtimkdpkhdbiniaaSDM12
/- msg.Decode, in plain Lean; that a message's bytes are read as it is. No program in it. -/
namespace Go.Proofs.Ytimkdpkhdbiniaa
open Go.RowKit
set_option maxRecDepth 100000

end Go.Proofs.Ytimkdpkhdbiniaa

/- A sound message's bytes are read as it is, in plain Lean. -/
namespace Go.Proofs.Ytimkdpkhdbiniaa
open Go.RowKit
set_option maxRecDepth 100000

end Go.Proofs.Ytimkdpkhdbiniaa

/- What is read is sound, in plain Lean: names, questions. -/
namespace Go.Proofs.Ytimkdpkhdbiniaa
open Go.RowKit
set_option maxRecDepth 100000

theorem getP_sound (b : List UInt8) (a g n : Nat) (ls : List (List UInt8)) (hs : SoundN ls) : SoundN (getP b a g n ls).1 := by
  have hz : SoundN [] := ⟨by simp, by show sizeN [] ≤ 255; decide⟩
  fun_induction getP b a g n ls with
  | case1 => exact hz
  | case2 => exact hs
  | case3 => exact hz
  | case4 at_ beg nx ls c hc h0 h1 d hd hb ih => exact ih hs
  | case5 => exact hz
  | case6 => exact hz
  | case7 => exact hz
  | case8 => exact hz
  | case9 at_ beg nx ls c hc h0 h1 h2 h3 h4 ih =>
    refine ih ⟨fun l hl => ?_, ?_⟩
    · rcases List.mem_append.1 hl with h | h
      · exact hs.1 l h
      · rw [List.mem_singleton.1 h, List.length_take, List.length_drop]
        omega
    · rw [sizeN_snoc, List.length_take, List.length_drop]
      omega
theorem nameA_sound (b : List UInt8) (a : Int) : SoundN (nameA b a).1 := by
  have hz : SoundN [] := ⟨by simp, by show sizeN [] ≤ 255; decide⟩
  unfold nameA
  split
  · exact hz
  · exact getP_sound _ _ _ _ _ hz
end Go.Proofs.Ytimkdpkhdbiniaa

/- What is read is sound, in plain Lean: data, records. -/
namespace Go.Proofs.Ytimkdpkhdbiniaa
open Go.RowKit
set_option maxRecDepth 100000

theorem nameX_sound {b : List UInt8} {pos en q : Nat} {n : List (List UInt8)} (h : nameX b pos en = .ok (n, q)) : SoundN n := by
  have hz : SoundN [] := ⟨by simp, by show sizeN [] ≤ 255; decide⟩
  unfold nameX at h
  split at h
  · split at h
    · cases h
    · injection h with h
      injection h with h1 h2
      rw [← h1]
      exact getP_sound _ _ _ _ _ hz
  · cases h
theorem bytesR_len2 {b l : List UInt8} {pos en n q : Nat} (hb : en ≤ b.length) (h : bytesR b pos en n = .ok (l, q)) : l.length = n := by
  unfold bytesR at h
  split at h
  · cases h
  · injection h with h
    injection h with h1 h2
    rw [← h1, List.length_take, List.length_drop]
    omega
theorem numsR_sound {b : List UInt8} {en size : Nat} (h1 : 1 ≤ size) (h7 : size ≤ 7) {l : List Int} {q : Nat} : ∀ {k pos : Nat} {acc : List Int}, (∀ n ∈ acc, fitsB n (size : Int) = true) → numsR b en size k pos acc = .ok (l, q) → (∀ n ∈ l, fitsB n (size : Int) = true) ∧ l.length = acc.length + k
  | 0, pos, acc, ha, h => by
    injection h with h
    injection h with e1 e2
    subst e1
    exact ⟨ha, rfl⟩
  | k + 1, pos, acc, ha, h => by
    rw [numsR] at h
    cases hn : numR b pos en size with
    | error e => rw [hn] at h; cases h
    | ok r =>
      obtain ⟨n, p⟩ := r
      rw [hn] at h
      have hn2 : n < 256 ^ size := by
        unfold numR at hn
        split at hn
        · cases hn
        · injection hn with hn
          injection hn with e1 e2
          rw [← e1]
          exact numA_lt
      obtain ⟨g1, g2⟩ := numsR_sound h1 h7 (k := k) (acc := acc ++ [(n : Int)]) (by
        intro u hu
        rcases List.mem_append.1 hu with hu | hu
        · exact ha u hu
        · rw [List.mem_singleton.1 hu]
          unfold fitsB
          rw [decide_eq_true_iff, Int.toNat_natCast]
          exact ⟨by omega, by omega, by omega, by exact_mod_cast hn2⟩) h
      refine ⟨g1, ?_⟩
      rw [g2, List.length_append, List.length_singleton]
      omega
theorem textsR_sound {b : List UInt8} {en : Nat} (hb : en ≤ b.length) {l : List (List UInt8)} {q : Nat} : ∀ {k pos : Nat} {acc : List (List UInt8)}, (∀ t ∈ acc, t.length ≤ 255) → textsR b en k pos acc = .ok (l, q) → (∀ t ∈ l, t.length ≤ 255) ∧ 1 ≤ l.length ∧ l.length ≤ acc.length + k
  | 0, pos, acc, ha, h => by
    rw [textsR] at h
    split at h
    · cases h
    · split at h
      · cases h
      · injection h with h
        injection h with e1 e2
        subst e1
        exact ⟨ha, by omega, by omega⟩
  | k + 1, pos, acc, ha, h => by
    rw [textsR] at h
    split at h
    · cases hn : numR b pos en 1 with
      | error e => rw [hn] at h; cases h
      | ok r =>
        obtain ⟨n, p⟩ := r
        rw [hn] at h
        simp only at h
        have hn2 : n < 256 ^ 1 := by
          unfold numR at hn
          split at hn
          · cases hn
          · injection hn with hn
            injection hn with e1 e2
            rw [← e1]
            exact numA_lt
        cases hq : bytesR b p en n with
        | error e => rw [hq] at h; cases h
        | ok r2 =>
          obtain ⟨t, p2⟩ := r2
          rw [hq] at h
          have hl := bytesR_len2 hb hq
          obtain ⟨g1, g2, g3⟩ := textsR_sound hb (k := k) (acc := acc ++ [t]) (by
            intro u hu
            rcases List.mem_append.1 hu with hu | hu
            · exact ha u hu
            · rw [List.mem_singleton.1 hu, hl]; omega) h
          refine ⟨g1, g2, ?_⟩
          rw [List.length_append, List.length_singleton] at g3
          omega
    · split at h
      · cases h
      · injection h with h
        injection h with e1 e2
        subst e1
        exact ⟨ha, by omega, by omega⟩
theorem dataR_sound {b : List UInt8} {pos en q : Nat} {k : Int} {d : Da} (hb : en ≤ b.length) (hs : en ≤ pos + 65535) (h : dataR b pos en (shapeP k) = .ok (d, q)) : FineS (shapeP k) d := by
  rcases shape_cases k with e | e | e | e | e | e | e | e <;> rw [e] at h ⊢ <;> simp [dataR, shpA, shpQ, shpN, shpM, shpS, shpV3, shpT, shpB] at h
  · cases hx : bytesR b pos en 4 with
    | error e => rw [hx] at h; cases h
    | ok r =>
      obtain ⟨x, p⟩ := r
      rw [hx] at h
      have hl := bytesR_len2 hb hx
      injection h with h; injection h with h h'; subst h
      simp [FineS, shpA, Da.zero, hostP, textsP, hl]
  · cases hx : bytesR b pos en 16 with
    | error e => rw [hx] at h; cases h
    | ok r =>
      obtain ⟨x, p⟩ := r
      rw [hx] at h
      have hl := bytesR_len2 hb hx
      injection h with h; injection h with h h'; subst h
      simp [FineS, shpQ, Da.zero, hostP, textsP, hl]
  · cases hx : nameX b pos en with
    | error e => rw [hx] at h; cases h
    | ok r =>
      obtain ⟨x, p⟩ := r
      rw [hx] at h
      have hl := nameX_sound hx
      injection h with h; injection h with h h'; subst h
      simp [FineS, shpN, Da.zero, hostP, textsP, hl]
  · cases hx : numsR b en 2 1 pos [] with
    | error e => rw [hx] at h; cases h
    | ok r =>
      obtain ⟨x, p⟩ := r
      rw [hx] at h
      simp only at h
      obtain ⟨g1, g2⟩ := numsR_sound (by omega) (by omega) (by simp) hx
      cases hy : nameX b p en with
      | error e => rw [hy] at h; cases h
      | ok r =>
        obtain ⟨y, p2⟩ := r
        rw [hy] at h
        have hl := nameX_sound hy
        injection h with h; injection h with h h'; subst h
        simp [FineS, shpM, Da.zero, hostP, textsP, hl]
        exact ⟨by simp only [List.length_nil] at g2; omega, fun n hn => g1 n hn⟩
  · cases hx : nameX b pos en with
    | error e => rw [hx] at h; cases h
    | ok r =>
      obtain ⟨x, p⟩ := r
      rw [hx] at h
      simp only at h
      have hl := nameX_sound hx
      cases hy : nameX b p en with
      | error e => rw [hy] at h; cases h
      | ok r =>
        obtain ⟨y, p2⟩ := r
        rw [hy] at h
        simp only at h
        have hl2 := nameX_sound hy
        cases hz : numsR b en 4 5 p2 [] with
        | error e => rw [hz] at h; cases h
        | ok r =>
          obtain ⟨z, p3⟩ := r
          rw [hz] at h
          obtain ⟨g1, g2⟩ := numsR_sound (by omega) (by omega) (by simp) hz
          injection h with h; injection h with h h'; subst h
          simp [FineS, shpS, Da.zero, hostP, textsP, hl, hl2]
          exact ⟨by simp only [List.length_nil] at g2; omega, fun n hn => g1 n hn⟩
  · cases hx : numsR b en 2 3 pos [] with
    | error e => rw [hx] at h; cases h
    | ok r =>
      obtain ⟨x, p⟩ := r
      rw [hx] at h
      simp only at h
      obtain ⟨g1, g2⟩ := numsR_sound (by omega) (by omega) (by simp) hx
      cases hy : nameX b p en with
      | error e => rw [hy] at h; cases h
      | ok r =>
        obtain ⟨y, p2⟩ := r
        rw [hy] at h
        have hl := nameX_sound hy
        injection h with h; injection h with h h'; subst h
        simp [FineS, shpV3, Da.zero, hostP, textsP, hl]
        exact ⟨by simp only [List.length_nil] at g2; omega, fun n hn => g1 n hn⟩
  · cases hx : textsR b en 64 pos [] with
    | error e => rw [hx] at h; cases h
    | ok r =>
      obtain ⟨x, p⟩ := r
      rw [hx] at h
      obtain ⟨g1, g2, g3⟩ := textsR_sound hb (by simp) hx
      injection h with h; injection h with h h'; subst h
      simp [FineS, shpT, Da.zero, hostP, textsP]
      exact ⟨g2, by simpa using g3, g1⟩
  · cases hx : bytesR b pos en (en - pos) with
    | error e => rw [hx] at h; cases h
    | ok r =>
      obtain ⟨x, p⟩ := r
      rw [hx] at h
      have hl := bytesR_len2 hb hx
      injection h with h; injection h with h h'; subst h
      simp [FineS, shpB, Da.zero, hostP, textsP]
      omega
end Go.Proofs.Ytimkdpkhdbiniaa

/- What is read is sound, in plain Lean: records, messages. -/
namespace Go.Proofs.Ytimkdpkhdbiniaa
open Go.RowKit
set_option maxRecDepth 100000

theorem nameX_nz {b : List UInt8} {pos en : Nat} {e : Int} (h : nameX b pos en = .error e) : e ≠ 0 := by
  unfold nameX at h
  split at h
  · split at h
    · injection h with h; omega
    · cases h
  · injection h with h; rw [← h]; assumption
theorem numsR_nz {b : List UInt8} {en size : Nat} {e : Int} : ∀ {k pos : Nat} {acc : List Int}, numsR b en size k pos acc = .error e → e ≠ 0
  | 0, pos, acc, h => by cases h
  | k + 1, pos, acc, h => by
    rw [numsR] at h
    cases hn : numR b pos en size with
    | error e2 => rw [hn] at h; injection h with h; have := numR_err hn; omega
    | ok r =>
      obtain ⟨n, p⟩ := r
      rw [hn] at h
      exact numsR_nz h
theorem textsR_nz {b : List UInt8} {en : Nat} {e : Int} : ∀ {k pos : Nat} {acc : List (List UInt8)}, textsR b en k pos acc = .error e → e ≠ 0
  | 0, pos, acc, h => by
    rw [textsR] at h
    split at h
    · injection h with h; omega
    · split at h
      · injection h with h; omega
      · cases h
  | k + 1, pos, acc, h => by
    rw [textsR] at h
    split at h
    · cases hn : numR b pos en 1 with
      | error e2 => rw [hn] at h; injection h with h; have := numR_err hn; omega
      | ok r =>
        obtain ⟨n, p⟩ := r
        rw [hn] at h
        simp only at h
        cases hb : bytesR b p en n with
        | error e2 => rw [hb] at h; injection h with h; have := bytesR_err hb; omega
        | ok r2 =>
          obtain ⟨t, p2⟩ := r2
          rw [hb] at h
          exact textsR_nz h
    · split at h
      · injection h with h; omega
      · cases h
theorem dataR_nz {b : List UInt8} {pos en : Nat} {s : Shp} {e : Int} (h : dataR b pos en s = .error e) : e ≠ 0 := by
  unfold dataR at h
  repeat' split at h
  all_goals first
    | (cases h; done)
    | (rename_i hx; injection h with h; subst h; first | exact textsR_nz hx | exact numsR_nz hx | exact nameX_nz hx | (have := bytesR_err hx; omega))
theorem getD_sound {b : List UInt8} {at_ size k : Int} (hs : size ≤ 65535) (h : (getD b at_ size k).2 = 0) : FineD k (getD b at_ size k).1 := by
  unfold getD at h ⊢
  split
  · rename_i h1; rw [if_pos h1] at h; cases h
  · rename_i h1
    rw [if_neg h1] at h
    split
    · rename_i h2; rw [if_pos h2] at h; cases h
    · rename_i h2
      rw [if_neg h2] at h
      cases hd : dataR b at_.toNat (at_.toNat + size.toNat) (shapeP k) with
      | error e =>
        exfalso
        rw [hd] at h
        simp only at h
        subst h
        exact dataR_nz hd rfl
      | ok r =>
        obtain ⟨d, q⟩ := r
        rw [hd] at h
        simp only at h ⊢
        split
        · rename_i h3; rw [if_pos h3] at h; cases h
        · exact ⟨⟨by omega, by omega⟩, dataR_sound (by omega) (by omega) hd⟩
end Go.Proofs.Ytimkdpkhdbiniaa
