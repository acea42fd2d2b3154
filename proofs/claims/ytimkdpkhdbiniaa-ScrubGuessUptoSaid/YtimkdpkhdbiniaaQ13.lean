/- Parts of a proof, joined: DecQ, DecR, DecS, DecT, DecU, DecX, DecY, MRd3, PushE. -/
import Derived.Deep.CutBlock
import Derived.Deep.DeepCutAuto
import Derived.Test.YtimkdpkhdbiniaaQ12
import Derived.Test.YtimkdpkhdbiniaaQ03
import Derived.Test.YtimkdpkhdbiniaaQ01
/- A sound message's bytes are read as it is, in plain Lean. -/
namespace Go.Proofs.Ytimkdpkhdbiniaa
open Go.RowKit
set_option maxRecDepth 100000

theorem optR_fine {m : Ms} (h : FineM m) : FineR (optR m) := by
  refine ⟨⟨by simp [optR], by show sizeN [] ≤ 255; decide⟩, ⟨⟨by show (1:Int) ≤ 41; omega, by show (41:Int) ≤ 65535; omega⟩, ?_⟩, h.size, by show (0:Int) ≤ 0; omega, by show (0:Int) < 2147483648; omega⟩
  show FineS shpB Da.zero
  simp [FineS, shpB, Da.zero, hostP, textsP]
theorem opt_b {m : Ms} (h : FineM m) (x : Wr) (he : m.edns = true) : (x.opt m).b = (x.rr (optR m)).b := by
  have hf := optR_fine h
  have hlt := x.rrLen_lt hf
  have hs : shapeP (optR m).type = shpB := rfl
  have hd : ∀ z : Wr, z.data shpB Da.zero = z.raw [] := by
    intro z
    obtain ⟨bs, e1, e2⟩ := data_B (x := z) (d := Da.zero) (by simp [FineS, shpB, Da.zero, hostP, textsP])
    have e3 : bs = [] := by injection e1 with e1; exact e1.symm
    rw [e2, e3]
  have h0 : x.rrLen (optR m) = 0 := by
    unfold Wr.rrLen
    rw [hs, show (optR m).data = Da.zero from rfl, hd]
    have := raw_len ((x.rrHead (optR m)).raw (putB [] 0 2)) []
    have := raw_len (x.rrHead (optR m)) (putB [] 0 2)
    have := put02_len
    simp only [List.length_nil] at *
    omega
  rw [Wr.rr_eq x _ hlt, h0, hs, show (optR m).data = Da.zero from rfl, hd]
  unfold Wr.opt
  rw [if_pos he]
  show (((x.b ++ [0]) ++ putB [] 41 2) ++ putB [] m.size 2) ++ putB [] 0 6 = ((((((x.name [] true).b) ++ putB [] 41 2) ++ putB [] m.size 2) ++ putB [] 0 4) ++ putB [] 0 2) ++ []
  rw [show putB [] 0 6 = putB [] 0 4 ++ putB [] 0 2 by decide, show (x.name [] true).b = x.b ++ [0] from rfl]
  simp only [List.append_assoc, List.append_nil]
theorem flags_back {m : Ms} (hf : FineM m) {n : Nat} (h : (n : Int) = flagsN m) :
    decide (n / 32768 % 2 = 1) = m.resp ∧ ((n / 2048 % 16 : Nat) : Int) = m.op ∧ decide (n / 1024 % 2 = 1) = m.aa ∧ decide (n / 512 % 2 = 1) = m.tc ∧ decide (n / 256 % 2 = 1) = m.rd ∧ decide (n / 128 % 2 = 1) = m.ra ∧ ((n % 16 : Nat) : Int) = m.rcode := by
  have h0 := hf.op0; have h1 := hf.op; have h2 := hf.rc0; have h3 := hf.rc
  unfold flagsN bitN at h
  clear hf
  generalize m.op = o at *
  generalize m.rcode = r at *
  generalize m.resp = b1 at *
  generalize m.aa = b2 at *
  generalize m.tc = b3 at *
  generalize m.rd = b4 at *
  generalize m.ra = b5 at *
  cases b1 <;> cases b2 <;> cases b3 <;> cases b4 <;> cases b5 <;> simp only [if_true, if_false, Bool.false_eq_true, decide_eq_true_iff, decide_eq_false_iff_not] at h ⊢ <;> (refine ⟨?_, ?_, ?_, ?_, ?_, ?_, ?_⟩ <;> omega)
theorem fitsI {n : Int} (h : 0 ≤ n ∧ n < 65536) : fitsB n 2 = true := by
  obtain ⟨k, rfl⟩ := Int.eq_ofNat_of_zero_le h.1
  exact fits2 (by omega)
theorem head_back {m : Ms} (hf : FineM m) (y : List UInt8) :
    (Wr.nil.nums2 (headN m)).b.length = 12 ∧ (numA ((Wr.nil.nums2 (headN m)).b ++ y) 0 2 : Int) = m.id ∧ (numA ((Wr.nil.nums2 (headN m)).b ++ y) 2 2 : Int) = flagsN m ∧ numA ((Wr.nil.nums2 (headN m)).b ++ y) 4 2 = m.qs.length ∧ numA ((Wr.nil.nums2 (headN m)).b ++ y) 6 2 = m.an.length ∧ numA ((Wr.nil.nums2 (headN m)).b ++ y) 8 2 = m.au.length ∧ (numA ((Wr.nil.nums2 (headN m)).b ++ y) 10 2 : Int) = m.ex.length + bitN m.edns 1 := by
  have ht := hf.tot
  unfold totM at ht
  have f0 := hf.id
  have f1 := fitsI (flagsN_fits hf)
  have f2 : fitsB (m.qs.length : Int) 2 = true := fits2 (by omega)
  have f3 : fitsB (m.an.length : Int) 2 = true := fits2 (by omega)
  have f4 : fitsB (m.au.length : Int) 2 = true := fits2 (by omega)
  have f5 : fitsB ((m.ex.length : Int) + bitN m.edns 1) 2 = true := fitsI (by unfold bitN; split <;> omega)
  obtain ⟨B, hB⟩ : ∃ B, B = (Wr.nil.nums2 (headN m)).b ++ y := ⟨_, rfl⟩
  have hb : (Wr.nil.nums2 (headN m)).b = putB [] m.id 2 ++ (putB [] (flagsN m) 2 ++ (putB [] (m.qs.length : Int) 2 ++ (putB [] (m.an.length : Int) 2 ++ (putB [] (m.au.length : Int) 2 ++ putB [] ((m.ex.length : Int) + bitN m.edns 1) 2)))) := by
    show (((((([] ++ putB [] m.id 2) ++ putB [] (flagsN m) 2) ++ putB [] (m.qs.length : Int) 2) ++ putB [] (m.an.length : Int) 2) ++ putB [] (m.au.length : Int) 2) ++ putB [] ((m.ex.length : Int) + bitN m.edns 1) 2) = _
    simp only [List.nil_append, List.append_assoc]
  have l0 : (putB [] m.id 2).length = 2 := putB_len_fit f0
  have l1 : (putB [] (flagsN m) 2).length = 2 := putB_len_fit f1
  have l2 : (putB [] (m.qs.length : Int) 2).length = 2 := putB_len_fit f2
  have l3 : (putB [] (m.an.length : Int) 2).length = 2 := putB_len_fit f3
  have l4 : (putB [] (m.au.length : Int) 2).length = 2 := putB_len_fit f4
  have l5 : (putB [] ((m.ex.length : Int) + bitN m.edns 1) 2).length = 2 := putB_len_fit f5
  have sg : Seg B 0 (Wr.nil.nums2 (headN m)).b := ⟨[], y, by rw [hB]; rfl, rfl⟩
  have hlen : (Wr.nil.nums2 (headN m)).b.length = 12 := by rw [hb]; simp only [List.length_append]; omega
  rw [← hB]
  rw [hb] at sg
  have s0 := sg.left
  have g1 := sg.right
  rw [l0] at g1
  have s1 := g1.left
  have g2 := g1.right
  rw [l1] at g2
  have s2 := g2.left
  have g3 := g2.right
  rw [l2] at g3
  have s3 := g3.left
  have g4 := g3.right
  rw [l3] at g4
  have s4 := g4.left
  have s5 := g4.right
  rw [l4] at s5
  have n0 : (numA B 0 2 : Int) = _ := numA_seg f0 s0
  have n1 : (numA B 2 2 : Int) = _ := numA_seg f1 s1
  have n2 : (numA B 4 2 : Int) = _ := numA_seg f2 s2
  have n3 : (numA B 6 2 : Int) = _ := numA_seg f3 s3
  have n4 : (numA B 8 2 : Int) = _ := numA_seg f4 s4
  have n5 : (numA B 10 2 : Int) = _ := numA_seg f5 s5
  exact ⟨hlen, n0, n1, by omega, by omega, by omega, n5⟩
theorem Wr.True.nums2 {x : Wr} (hx : x.True) (l : List Int) : (x.nums2 l).True := by
  induction l generalizing x with
  | nil => exact hx
  | cons n l ih => exact ih (hx.raw _)
theorem Wr.nil_true : Wr.nil.True := by
  intro r p hr
  have e : lookR Wr.nil.rests r = none := rfl
  rw [e] at hr
  cases hr
/-- What was written is read. -/
theorem decode_back {m : Ms} (hf : FineM m) (hl : (msW m).b.length ≤ 65535) : decP (msW m).b = .ok m := by
  have ht := hf.tot
  unfold totM at ht
  obtain ⟨x0, e0⟩ : ∃ x, x = Wr.nil.nums2 (headN m) := ⟨_, rfl⟩
  obtain ⟨x1, e1⟩ : ∃ x, x = x0.qus m.qs := ⟨_, rfl⟩
  obtain ⟨x2, e2⟩ : ∃ x, x = x1.rrs m.an := ⟨_, rfl⟩
  obtain ⟨x3, e3⟩ : ∃ x, x = x2.rrs m.au := ⟨_, rfl⟩
  obtain ⟨x4, e4⟩ : ∃ x, x = x3.rrs m.ex := ⟨_, rfl⟩
  have hw : msW m = x4.opt m := by rw [e4, e3, e2, e1, e0]; rfl
  have t0 : x0.True := by rw [e0]; exact Wr.nil_true.nums2 _
  have t1 : x1.True := by rw [e1]; exact t0.qus _ hf.qs
  have t2 : x2.True := by rw [e2]; exact t1.rrs _ hf.an
  have t3 : x3.True := by rw [e3]; exact t2.rrs _ hf.au
  have t4 : x4.True := by rw [e4]; exact t3.rrs _ hf.ex
  obtain ⟨z5, h5⟩ : ∃ z, (msW m).b = x4.b ++ z := by
    rw [hw]
    cases he : m.edns with
    | false => exact ⟨[], by unfold Wr.opt; rw [he]; simp⟩
    | true => rw [opt_b hf x4 he]; exact x4.rr_ext (optR_fine hf)
  obtain ⟨z4, h4⟩ := x3.rrs_ext m.ex hf.ex
  obtain ⟨z3, h3⟩ := x2.rrs_ext m.au hf.au
  obtain ⟨z2, h2⟩ := x1.rrs_ext m.an hf.an
  obtain ⟨z1, h1⟩ := x0.qus_ext m.qs
  rw [← e4] at h4
  rw [← e3] at h3
  rw [← e2] at h2
  rw [← e1] at h1
  obtain ⟨B, hB⟩ : ∃ B, B = (msW m).b := ⟨_, rfl⟩
  rw [← hB] at hl h5 ⊢
  have b3 : B = x3.b ++ (z4 ++ z5) := by rw [h5, h4, List.append_assoc]
  have b2 : B = x2.b ++ (z3 ++ (z4 ++ z5)) := by rw [b3, h3, List.append_assoc]
  have b1 : B = x1.b ++ (z2 ++ (z3 ++ (z4 ++ z5))) := by rw [b2, h2, List.append_assoc]
  have b0 : B = x0.b ++ (z1 ++ (z2 ++ (z3 ++ (z4 ++ z5)))) := by rw [b1, h1, List.append_assoc]
  obtain ⟨hlen, n0, n1, n2, n3, n4, n5⟩ := head_back hf (z1 ++ (z2 ++ (z3 ++ (z4 ++ z5))))
  rw [← e0, ← b0] at n0 n1 n2 n3 n4 n5
  rw [← e0] at hlen
  obtain ⟨f1, f2, f3, f4, f5, f6, f7⟩ := flags_back hf n1
  have hbl : 12 ≤ B.length := by rw [b0, List.length_append]; omega
  have d1 : dQus B m.qs.length 12 [] = .ok (m.qs, x1.b.length) := by
    have := dQus_back m.qs t0 hf.qs [] (z2 ++ (z3 ++ (z4 ++ z5)))
    rw [← e1, ← b1, hlen] at this
    exact this
  have d2 : ∀ o, dRRs B false m.an.length x1.b.length o [] = .ok (m.an, x2.b.length, o) := by
    intro o
    have := dRRs_back false m.an t1 hf.an 0 o [] (z3 ++ (z4 ++ z5))
    rw [← e2, ← b2] at this
    exact this
  have d3 : ∀ o, dRRs B false m.au.length x2.b.length o [] = .ok (m.au, x3.b.length, o) := by
    intro o
    have := dRRs_back false m.au t2 hf.au 0 o [] (z4 ++ z5)
    rw [← e3, ← b3] at this
    exact this
  have d4 : dRRs B true (numA B 10 2) x3.b.length ⟨false, 0⟩ [] = .ok (m.ex, B.length, ⟨m.edns, m.size⟩) := by
    cases he : m.edns with
    | false =>
      rw [he] at n5
      have k : numA B 10 2 = m.ex.length + 0 := by unfold bitN at n5; simp at n5; omega
      have := dRRs_back true m.ex t3 hf.ex 0 ⟨false, 0⟩ [] z5
      rw [← e4, ← h5] at this
      rw [k, this]
      have hz : m.size = 0 := by rcases hf.edns with h | h; (rw [he] at h; cases h); exact h
      have hx : B.length = x4.b.length := by rw [hB, hw]; unfold Wr.opt; rw [he]; simp
      rw [hz, hx]; rfl
    | true =>
      rw [he] at n5
      have k : numA B 10 2 = m.ex.length + 1 := by unfold bitN at n5; simp at n5; omega
      have := dRRs_back true m.ex t3 hf.ex 1 ⟨false, 0⟩ [] z5
      rw [← e4, ← h5] at this
      rw [k, this]
      have hx : B = (x4.rr (optR m)).b := by rw [hB, hw, opt_b hf x4 he]
      have hg := getRR_back t4 (optR_fine hf) []
      rw [List.append_nil, ← hx] at hg
      rw [dRRs, hg]
      simp [optR, dRRs]
  unfold decP
  rw [if_neg (by omega), if_neg (by omega), if_neg (by have : bitN m.edns 1 ≤ 1 := by { unfold bitN; split <;> omega }; omega), n2, d1]
  simp only []
  rw [n3, d2]
  simp only []
  rw [n4, d3]
  simp only []
  rw [d4]
  simp only [Nat.lt_irrefl, if_false]
  unfold msF bitA
  rw [f1, f2, f3, f4, f5, f6, f7, n0]
end Go.Proofs.Ytimkdpkhdbiniaa

/- What is read is sound, in plain Lean: names, questions. -/
namespace Go.Proofs.Ytimkdpkhdbiniaa
open Go.RowKit
set_option maxRecDepth 100000

theorem getP_sound (b : List UInt8) (a g n : Nat) (ls : List (List UInt8)) (hs : SoundN ls) : SoundN (getP b a g n ls).1 := by
  have hz : SoundN [] := ⟨by simp, by show sizeN [] ≤ 255; decide⟩
  fun_induction getP b a g n ls with
  | case1 => exact hz
  | case2 => exact hs
  | case3 => exact hz
  | case4 at_ beg nx ls c hc h0 h1 d hd hb ih => exact ih hs
  | case5 => exact hz
  | case6 => exact hz
  | case7 => exact hz
  | case8 => exact hz
  | case9 at_ beg nx ls c hc h0 h1 h2 h3 h4 ih =>
    refine ih ⟨fun l hl => ?_, ?_⟩
    · rcases List.mem_append.1 hl with h | h
      · exact hs.1 l h
      · rw [List.mem_singleton.1 h, List.length_take, List.length_drop]
        omega
    · rw [sizeN_snoc, List.length_take, List.length_drop]
      omega
theorem nameA_sound (b : List UInt8) (a : Int) : SoundN (nameA b a).1 := by
  have hz : SoundN [] := ⟨by simp, by show sizeN [] ≤ 255; decide⟩
  unfold nameA
  split
  · exact hz
  · exact getP_sound _ _ _ _ _ hz
theorem dQu_sound {b : List UInt8} {p p' : Nat} {q : Qu} (h : dQu b p = .ok (q, p')) : FineQ q := by
  unfold dQu at h
  split at h
  · cases h
  split at h
  · cases h
  split at h
  · cases h
  rename_i h1
  injection h with h
  injection h with h h'
  subst h
  exact ⟨nameA_sound _ _, by show (1:Int) ≤ (numA _ _ 2 : Int); omega, fits2 numA_2, fits2 numA_2⟩
end Go.Proofs.Ytimkdpkhdbiniaa

/- What is read is sound, in plain Lean: data, records. -/
namespace Go.Proofs.Ytimkdpkhdbiniaa
open Go.RowKit
set_option maxRecDepth 100000

theorem nameX_sound {b : List UInt8} {pos en q : Nat} {n : List (List UInt8)} (h : nameX b pos en = .ok (n, q)) : SoundN n := by
  have hz : SoundN [] := ⟨by simp, by show sizeN [] ≤ 255; decide⟩
  unfold nameX at h
  split at h
  · split at h
    · cases h
    · injection h with h
      injection h with h1 h2
      rw [← h1]
      exact getP_sound _ _ _ _ _ hz
  · cases h
theorem bytesR_len2 {b l : List UInt8} {pos en n q : Nat} (hb : en ≤ b.length) (h : bytesR b pos en n = .ok (l, q)) : l.length = n := by
  unfold bytesR at h
  split at h
  · cases h
  · injection h with h
    injection h with h1 h2
    rw [← h1, List.length_take, List.length_drop]
    omega
theorem numsR_sound {b : List UInt8} {en size : Nat} (h1 : 1 ≤ size) (h7 : size ≤ 7) {l : List Int} {q : Nat} : ∀ {k pos : Nat} {acc : List Int}, (∀ n ∈ acc, fitsB n (size : Int) = true) → numsR b en size k pos acc = .ok (l, q) → (∀ n ∈ l, fitsB n (size : Int) = true) ∧ l.length = acc.length + k
  | 0, pos, acc, ha, h => by
    injection h with h
    injection h with e1 e2
    subst e1
    exact ⟨ha, rfl⟩
  | k + 1, pos, acc, ha, h => by
    rw [numsR] at h
    cases hn : numR b pos en size with
    | error e => rw [hn] at h; cases h
    | ok r =>
      obtain ⟨n, p⟩ := r
      rw [hn] at h
      have hn2 : n < 256 ^ size := by
        unfold numR at hn
        split at hn
        · cases hn
        · injection hn with hn
          injection hn with e1 e2
          rw [← e1]
          exact numA_lt
      obtain ⟨g1, g2⟩ := numsR_sound h1 h7 (k := k) (acc := acc ++ [(n : Int)]) (by
        intro u hu
        rcases List.mem_append.1 hu with hu | hu
        · exact ha u hu
        · rw [List.mem_singleton.1 hu]
          unfold fitsB
          rw [decide_eq_true_iff, Int.toNat_natCast]
          exact ⟨by omega, by omega, by omega, by exact_mod_cast hn2⟩) h
      refine ⟨g1, ?_⟩
      rw [g2, List.length_append, List.length_singleton]
      omega
theorem textsR_sound {b : List UInt8} {en : Nat} (hb : en ≤ b.length) {l : List (List UInt8)} {q : Nat} : ∀ {k pos : Nat} {acc : List (List UInt8)}, (∀ t ∈ acc, t.length ≤ 255) → textsR b en k pos acc = .ok (l, q) → (∀ t ∈ l, t.length ≤ 255) ∧ 1 ≤ l.length ∧ l.length ≤ acc.length + k
  | 0, pos, acc, ha, h => by
    rw [textsR] at h
    split at h
    · cases h
    · split at h
      · cases h
      · injection h with h
        injection h with e1 e2
        subst e1
        exact ⟨ha, by omega, by omega⟩
  | k + 1, pos, acc, ha, h => by
    rw [textsR] at h
    split at h
    · cases hn : numR b pos en 1 with
      | error e => rw [hn] at h; cases h
      | ok r =>
        obtain ⟨n, p⟩ := r
        rw [hn] at h
        simp only at h
        have hn2 : n < 256 ^ 1 := by
          unfold numR at hn
          split at hn
          · cases hn
          · injection hn with hn
            injection hn with e1 e2
            rw [← e1]
            exact numA_lt
        cases hq : bytesR b p en n with
        | error e => rw [hq] at h; cases h
        | ok r2 =>
          obtain ⟨t, p2⟩ := r2
          rw [hq] at h
          have hl := bytesR_len2 hb hq
          obtain ⟨g1, g2, g3⟩ := textsR_sound hb (k := k) (acc := acc ++ [t]) (by
            intro u hu
            rcases List.mem_append.1 hu with hu | hu
            · exact ha u hu
            · rw [List.mem_singleton.1 hu, hl]; omega) h
          refine ⟨g1, g2, ?_⟩
          rw [List.length_append, List.length_singleton] at g3
          omega
    · split at h
      · cases h
      · injection h with h
        injection h with e1 e2
        subst e1
        exact ⟨ha, by omega, by omega⟩
theorem dataR_sound {b : List UInt8} {pos en q : Nat} {k : Int} {d : Da} (hb : en ≤ b.length) (hs : en ≤ pos + 65535) (h : dataR b pos en (shapeP k) = .ok (d, q)) : FineS (shapeP k) d := by
  rcases shape_cases k with e | e | e | e | e | e | e | e <;> rw [e] at h ⊢ <;> simp [dataR, shpA, shpQ, shpN, shpM, shpS, shpV3, shpT, shpB] at h
  · cases hx : bytesR b pos en 4 with
    | error e => rw [hx] at h; cases h
    | ok r =>
      obtain ⟨x, p⟩ := r
      rw [hx] at h
      have hl := bytesR_len2 hb hx
      injection h with h; injection h with h h'; subst h
      simp [FineS, shpA, Da.zero, hostP, textsP, hl]
  · cases hx : bytesR b pos en 16 with
    | error e => rw [hx] at h; cases h
    | ok r =>
      obtain ⟨x, p⟩ := r
      rw [hx] at h
      have hl := bytesR_len2 hb hx
      injection h with h; injection h with h h'; subst h
      simp [FineS, shpQ, Da.zero, hostP, textsP, hl]
  · cases hx : nameX b pos en with
    | error e => rw [hx] at h; cases h
    | ok r =>
      obtain ⟨x, p⟩ := r
      rw [hx] at h
      have hl := nameX_sound hx
      injection h with h; injection h with h h'; subst h
      simp [FineS, shpN, Da.zero, hostP, textsP, hl]
  · cases hx : numsR b en 2 1 pos [] with
    | error e => rw [hx] at h; cases h
    | ok r =>
      obtain ⟨x, p⟩ := r
      rw [hx] at h
      simp only at h
      obtain ⟨g1, g2⟩ := numsR_sound (by omega) (by omega) (by simp) hx
      cases hy : nameX b p en with
      | error e => rw [hy] at h; cases h
      | ok r =>
        obtain ⟨y, p2⟩ := r
        rw [hy] at h
        have hl := nameX_sound hy
        injection h with h; injection h with h h'; subst h
        simp [FineS, shpM, Da.zero, hostP, textsP, hl]
        exact ⟨by simp only [List.length_nil] at g2; omega, fun n hn => g1 n hn⟩
  · cases hx : nameX b pos en with
    | error e => rw [hx] at h; cases h
    | ok r =>
      obtain ⟨x, p⟩ := r
      rw [hx] at h
      simp only at h
      have hl := nameX_sound hx
      cases hy : nameX b p en with
      | error e => rw [hy] at h; cases h
      | ok r =>
        obtain ⟨y, p2⟩ := r
        rw [hy] at h
        simp only at h
        have hl2 := nameX_sound hy
        cases hz : numsR b en 4 5 p2 [] with
        | error e => rw [hz] at h; cases h
        | ok r =>
          obtain ⟨z, p3⟩ := r
          rw [hz] at h
          obtain ⟨g1, g2⟩ := numsR_sound (by omega) (by omega) (by simp) hz
          injection h with h; injection h with h h'; subst h
          simp [FineS, shpS, Da.zero, hostP, textsP, hl, hl2]
          exact ⟨by simp only [List.length_nil] at g2; omega, fun n hn => g1 n hn⟩
  · cases hx : numsR b en 2 3 pos [] with
    | error e => rw [hx] at h; cases h
    | ok r =>
      obtain ⟨x, p⟩ := r
      rw [hx] at h
      simp only at h
      obtain ⟨g1, g2⟩ := numsR_sound (by omega) (by omega) (by simp) hx
      cases hy : nameX b p en with
      | error e => rw [hy] at h; cases h
      | ok r =>
        obtain ⟨y, p2⟩ := r
        rw [hy] at h
        have hl := nameX_sound hy
        injection h with h; injection h with h h'; subst h
        simp [FineS, shpV3, Da.zero, hostP, textsP, hl]
        exact ⟨by simp only [List.length_nil] at g2; omega, fun n hn => g1 n hn⟩
  · cases hx : textsR b en 64 pos [] with
    | error e => rw [hx] at h; cases h
    | ok r =>
      obtain ⟨x, p⟩ := r
      rw [hx] at h
      obtain ⟨g1, g2, g3⟩ := textsR_sound hb (by simp) hx
      injection h with h; injection h with h h'; subst h
      simp [FineS, shpT, Da.zero, hostP, textsP]
      exact ⟨g2, by simpa using g3, g1⟩
  · cases hx : bytesR b pos en (en - pos) with
    | error e => rw [hx] at h; cases h
    | ok r =>
      obtain ⟨x, p⟩ := r
      rw [hx] at h
      have hl := bytesR_len2 hb hx
      injection h with h; injection h with h h'; subst h
      simp [FineS, shpB, Da.zero, hostP, textsP]
      omega
end Go.Proofs.Ytimkdpkhdbiniaa

/- What is read is sound, in plain Lean: records, messages. -/
namespace Go.Proofs.Ytimkdpkhdbiniaa
open Go.RowKit
set_option maxRecDepth 100000

theorem nameX_nz {b : List UInt8} {pos en : Nat} {e : Int} (h : nameX b pos en = .error e) : e ≠ 0 := by
  unfold nameX at h
  split at h
  · split at h
    · injection h with h; omega
    · cases h
  · injection h with h; rw [← h]; assumption
theorem numsR_nz {b : List UInt8} {en size : Nat} {e : Int} : ∀ {k pos : Nat} {acc : List Int}, numsR b en size k pos acc = .error e → e ≠ 0
  | 0, pos, acc, h => by cases h
  | k + 1, pos, acc, h => by
    rw [numsR] at h
    cases hn : numR b pos en size with
    | error e2 => rw [hn] at h; injection h with h; have := numR_err hn; omega
    | ok r =>
      obtain ⟨n, p⟩ := r
      rw [hn] at h
      exact numsR_nz h
theorem textsR_nz {b : List UInt8} {en : Nat} {e : Int} : ∀ {k pos : Nat} {acc : List (List UInt8)}, textsR b en k pos acc = .error e → e ≠ 0
  | 0, pos, acc, h => by
    rw [textsR] at h
    split at h
    · injection h with h; omega
    · split at h
      · injection h with h; omega
      · cases h
  | k + 1, pos, acc, h => by
    rw [textsR] at h
    split at h
    · cases hn : numR b pos en 1 with
      | error e2 => rw [hn] at h; injection h with h; have := numR_err hn; omega
      | ok r =>
        obtain ⟨n, p⟩ := r
        rw [hn] at h
        simp only at h
        cases hb : bytesR b p en n with
        | error e2 => rw [hb] at h; injection h with h; have := bytesR_err hb; omega
        | ok r2 =>
          obtain ⟨t, p2⟩ := r2
          rw [hb] at h
          exact textsR_nz h
    · split at h
      · injection h with h; omega
      · cases h
theorem dataR_nz {b : List UInt8} {pos en : Nat} {s : Shp} {e : Int} (h : dataR b pos en s = .error e) : e ≠ 0 := by
  unfold dataR at h
  repeat' split at h
  all_goals first
    | (cases h; done)
    | (rename_i hx; injection h with h; subst h; first | exact textsR_nz hx | exact numsR_nz hx | exact nameX_nz hx | (have := bytesR_err hx; omega))
theorem getD_sound {b : List UInt8} {at_ size k : Int} (hs : size ≤ 65535) (h : (getD b at_ size k).2 = 0) : FineD k (getD b at_ size k).1 := by
  unfold getD at h ⊢
  split
  · rename_i h1; rw [if_pos h1] at h; cases h
  · rename_i h1
    rw [if_neg h1] at h
    split
    · rename_i h2; rw [if_pos h2] at h; cases h
    · rename_i h2
      rw [if_neg h2] at h
      cases hd : dataR b at_.toNat (at_.toNat + size.toNat) (shapeP k) with
      | error e =>
        exfalso
        rw [hd] at h
        simp only at h
        subst h
        exact dataR_nz hd rfl
      | ok r =>
        obtain ⟨d, q⟩ := r
        rw [hd] at h
        simp only at h ⊢
        split
        · rename_i h3; rw [if_pos h3] at h; cases h
        · exact ⟨⟨by omega, by omega⟩, dataR_sound (by omega) (by omega) hd⟩
theorem getRR_fine {b : List UInt8} {a : Int} (h : (getRR b a).2.2 = 0) : FineR (getRR b a).1 := by
  unfold getRR at h ⊢
  split
  · rename_i h1; rw [if_pos h1] at h; exact absurd h h1
  · rename_i h1
    rw [if_neg h1] at h
    unfold getRR1 at h ⊢
    split
    · rename_i h2; rw [if_pos h2] at h; cases h
    · rename_i h2
      rw [if_neg h2] at h
      split
      · rename_i h3; rw [if_pos h3] at h; cases h
      · rename_i h3
        rw [if_neg h3] at h
        split
        · rename_i h4; rw [if_pos h4] at h; exact absurd h h4
        · rename_i h4
          refine ⟨nameA_sound _ _, getD_sound (by have := @numA_2 b ((nameA b a).2.1.toNat + 8); omega) (by simpa using h4), fits2 numA_2, ?_, ?_⟩
          · show 0 ≤ ttlA _ _
            unfold ttlA
            split <;> omega
          · show ttlA _ _ < 2147483648
            unfold ttlA
            split <;> omega
theorem dRRs_sound {b : List UInt8} {e : Bool} (k : Nat) : ∀ {p p' : Nat} {o o' : Opt} {acc l : List RR}, (∀ r ∈ acc, FineK r) → (fitsB o.size 2 = true ∧ (o.edns = true ∨ o.size = 0)) → dRRs b e k p o acc = .ok (l, p', o') → (∀ r ∈ l, FineK r) ∧ (fitsB o'.size 2 = true ∧ (o'.edns = true ∨ o'.size = 0)) := by
  induction k with
  | zero =>
    intro p p' o o' acc l ha ho h
    rw [dRRs] at h
    injection h with h
    injection h with h h'
    injection h' with h' h''
    subst h
    subst h''
    exact ⟨ha, ho⟩
  | succ k ih =>
    intro p p' o o' acc l ha ho h
    rw [dRRs] at h
    split at h
    · cases h
    rename_i h1
    have hf := getRR_fine (b := b) (a := (p : Int)) (by simpa using h1)
    split at h
    · split at h
      · cases h
      · exact ih ha ⟨hf.2.2.1, .inl rfl⟩ h
    · rename_i h2
      refine ih (acc := acc ++ [(getRR b p).1]) ?_ ho h
      intro u hu
      rcases List.mem_append.1 hu with hu | hu
      · exact ha u hu
      · rw [List.mem_singleton.1 hu]; exact ⟨h2, hf⟩
end Go.Proofs.Ytimkdpkhdbiniaa

/- What is read has no more bytes than there are, in plain Lean. -/
namespace Go.Proofs.Ytimkdpkhdbiniaa
open Go.RowKit
set_option maxRecDepth 100000

end Go.Proofs.Ytimkdpkhdbiniaa

/- msg.Decode, in plain Lean: what is read of bytes is read of them with more behind as well; so a message's beginning is none. No program in it. -/
namespace Go.Proofs.Ytimkdpkhdbiniaa
open Go.RowKit
set_option maxRecDepth 100000

end Go.Proofs.Ytimkdpkhdbiniaa

/- How large a message is that was read, in plain Lean. No program in it. -/
namespace Go.Proofs.Ytimkdpkhdbiniaa
open Go.RowKit
set_option maxRecDepth 100000

theorem SoundN.short {n : List (List UInt8)} (h : SoundN n) : n.length ≤ 255 := by have := sizeN_length n; have := h.2; omega
theorem hostP_short {b : Bool} {n : List (List UInt8)} (h : hostP b n) : n.length ≤ 255 := by
  unfold hostP at h
  split at h
  · exact SoundN.short h
  · rw [h]; simp
theorem FineR.small {r : RR} (h : FineR r) : r.name.length ≤ 255 ∧ r.data.host.length ≤ 255 ∧ r.data.mail.length ≤ 255 ∧ r.data.nums.length ≤ 5 ∧ r.data.texts.length ≤ 64 ∧ r.data.bytes.length ≤ 65535 := by
  obtain ⟨hn, ⟨_, hs⟩, _⟩ := h
  obtain ⟨_, h2, h3, h4, h5, _, h7⟩ := hs
  refine ⟨SoundN.short hn, hostP_short h4, hostP_short h5, ?_, ?_, h2⟩
  · rcases shape_cases r.type with e | e | e | e | e | e | e | e <;> rw [e] at h3
    · have h3' : (r.data.nums.length : Int) = 0 := h3; omega
    · have h3' : (r.data.nums.length : Int) = 0 := h3; omega
    · have h3' : (r.data.nums.length : Int) = 0 := h3; omega
    · have h3' : (r.data.nums.length : Int) = 1 := h3; omega
    · have h3' : (r.data.nums.length : Int) = 5 := h3; omega
    · have h3' : (r.data.nums.length : Int) = 3 := h3; omega
    · have h3' : (r.data.nums.length : Int) = 0 := h3; omega
    · have h3' : (r.data.nums.length : Int) = 0 := h3; omega
  · unfold textsP at h7
    split at h7
    · exact h7.2.1
    · rw [h7]; simp
/-- What msg.Decode answers. -/
def decV (b : List UInt8) : Ms × Int := match decP b with
  | .ok m => (m, 0)
  | .error e => (Ms.zero, e)
theorem decV_ok {b : List UInt8} {m : Ms} (h : decP b = .ok m) : decV b = (m, 0) := by unfold decV; rw [h]
theorem decV_err {b : List UInt8} {e : Int} (h : decP b = .error e) : decV b = (Ms.zero, e) := by unfold decV; rw [h]
end Go.Proofs.Ytimkdpkhdbiniaa

/- msg's reader, whatever the bytes: records. -/
namespace Go.Proofs.Ytimkdpkhdbiniaa
open Go.RowKit
set_option maxRecDepth 100000
set_option linter.unusedVariables false

def setO (m : Ms) (o : Opt) : Ms := { m with edns := o.edns, size := o.size }
/-- A call of the reader's records. -/
def MrX (r : Except Int (List RR × Nat × Opt)) (w : World) (p q : Nat) (bv : Value) (s : MS) (m : Ms) (e : Ending) (w' : World) : Prop :=
  match r with
  | .ok (l, p', o) => ∃ v, e = .returned v ∧ NewE encRR 84 w.heap.size w' v l ∧ MRd w' p bv (p' : Int) ∧ MRow w' q s (setO m o) ∧ Chg (fun z => z = p ∨ z = q) w w'
  | .error x => e = .panicked (pnc x) ∧ Chg (fun z => z = p ∨ z = q) w w'
theorem RGot.rin2 {w : World} {B : Nat} {s : RS} {x : RR} (h : RGot w B s x) (hf : FineR x) : RIn (geS B w) w s x := by
  obtain ⟨n1, n2⟩ := ownE_els h.n rfl
  have h1 := hf.2.1.1
  have h2 := fitsB_true hf.2.2.1
  have h3 : x.cls < 65536 := h2.2.2.2
  have h4 := hf.2.2.2
  exact ⟨n1, n2, h.d.din, ⟨by omega, by omega⟩, ⟨by omega, by omega⟩, ⟨by omega, by omega⟩⟩
/-- A record that was read, in a block of its own. -/
structure RecSt (w wc : World) (g : Nat) (t : RS) (r : RR) : Prop where
  ge : w.heap.size ≤ g
  R : RRow wc g t r
  G : RGot wc w.heap.size t r
  bw : Below w.heap.size w wc
theorem RecSt.after {w w2 : World} {t : RS} {r : RR} (hb : Below w.heap.size w w2) (hg : RGot w2 w.heap.size t r) : RecSt w (w2.alloc (.cells (rrCells t r) 84)) w2.heap.size t r :=
  ⟨hb.size, heap_alloc_new _ _, hg.below (bl.alloc (Nat.le_refl _) _), nx hb (bl.alloc (Nat.le_refl _) _)⟩
theorem RecSt.st {w w2 : World} (hb : Below (w.alloc (.cells (rrCells RS.nil RR.zero) 84)).drew.heap.size (w.alloc (.cells (rrCells RS.nil RR.zero) 84)).drew w2) : RgSt w w2 RS.nil RR.zero := (RgSt.start w).below (bl.drew.trans hb)
theorem RecSt.ahead {w w2 : World} {t : RS} {r : RR} (hb : Below (w.alloc (.cells (rrCells RS.nil RR.zero) 84)).drew.heap.size (w.alloc (.cells (rrCells RS.nil RR.zero) 84)).drew w2) (hg : RGot w2 (w.alloc (.cells (rrCells RS.nil RR.zero) 84)).drew.heap.size t r) : RecSt w (put9 w2 w.heap.size (.slice t.A r.name.length t.c) (.int .i64 r.type) (.int .i64 r.cls) (.int .i64 r.ttl) (.slice t.d.A0 r.data.bytes.length t.d.c0) (.slice t.d.A1 r.data.host.length t.d.c1) (.slice t.d.A2 r.data.mail.length t.d.c2) (.slice t.d.A3 r.data.nums.length t.d.c3) (.slice t.d.A4 r.data.texts.length t.d.c4)) w.heap.size t r := by
  have hz : (w.alloc (.cells (rrCells RS.nil RR.zero) 84)).drew.heap.size = w.heap.size + 1 := by show (w.alloc _).heap.size = _; simp
  rw [hz] at hg
  have hst : RgSt w w2 RS.nil RR.zero := (RgSt.start w).below (bl.drew.trans hb)
  have h := hst.nine (s' := t) (x' := r) hg
  exact ⟨Nat.le_refl _, h.R, h.G.base_le (Nat.le_succ _), h.bw⟩
theorem dRRs_err {b : List UInt8} {x : Bool} {k p : Nat} {o : Opt} {acc : List RR} (h : (getRR b p).2.2 ≠ 0) : dRRs b x (k + 1) p o acc = .error (getRR b p).2.2 := by rw [dRRs, if_pos h]
theorem dRRs_opt {b : List UInt8} {x : Bool} {k p p' : Nat} {o : Opt} {acc : List RR} {r : RR} (h : getRR b p = (r, (p' : Int), 0)) (ht : r.type = 41) (hx : ¬ (x = false ∨ o.edns = true ∨ r.name ≠ [])) : dRRs b x (k + 1) p o acc = dRRs b x k p' ⟨true, r.cls⟩ acc := by
  rw [dRRs, h]
  simp only [ne_eq, not_true_eq_false, if_false, Int.toNat_natCast]
  rw [if_pos ht, if_neg hx]
theorem dRRs_bad {b : List UInt8} {x : Bool} {k p p' : Nat} {o : Opt} {acc : List RR} {r : RR} (h : getRR b p = (r, (p' : Int), 0)) (ht : r.type = 41) (hx : x = false ∨ o.edns = true ∨ r.name ≠ []) : dRRs b x (k + 1) p o acc = .error 2 := by
  rw [dRRs, h]
  simp only [ne_eq, not_true_eq_false, if_false, Int.toNat_natCast]
  rw [if_pos ht, if_pos hx]
theorem dRRs_one {b : List UInt8} {x : Bool} {k p p' : Nat} {o : Opt} {acc : List RR} {r : RR} (h : getRR b p = (r, (p' : Int), 0)) (ht : ¬ r.type = 41) : dRRs b x (k + 1) p o acc = dRRs b x k p' o (acc ++ [r]) := by
  rw [dRRs, h]
  simp only [ne_eq, not_true_eq_false, if_false, Int.toNat_natCast]
  rw [if_neg ht]

theorem getRR_nn (b : List UInt8) (a : Int) : 0 ≤ (getRR b a).2.1 := by
  unfold getRR
  split
  · exact Int.le_refl _
  · unfold getRR1
    split
    · exact Int.le_refl _
    · split
      · exact Int.le_refl _
      · split
        · exact Int.le_refl _
        · exact Int.natCast_nonneg _

set_option maxHeartbeats 8000000 in
theorem mrecs_any (w : World) (p q : Nat) (A : Option Addr) (n c pos : Nat) (bs : List UInt8) (s : MS) (m : Ms) (k : Nat) (x : Bool) (h : MRd w p (.slice A n c) (pos : Int)) (hm : MRow w q s m) (hpq : p ≠ q) (hr : RdB w A n bs) (ho : offA A p) (hoq : offA A q) (hbl : ∀ b off, A = some ⟨b, off, none⟩ → b < w.heap.size) (hn : n ≤ c) (hc : c ≤ 9223372036854775807) (hn2 : n ≤ 100000000) (hk : k ≤ 65535) :
    Calls Try.prog 147 #[.pointer (some ⟨p, 0, none⟩), .pointer (some ⟨q, 0, none⟩), .int .i64 (k : Int), .bool x] w (MrX (dRRs bs x k pos ⟨m.edns, m.size⟩ []) w p q (.slice A n c) s m) := by
  have hpl := h.lt
  have hql := hm.lt
  have HPL := Lib.hid hpl
  have HQL := Lib.hid hql
  have HPQ := Lib.hid hpq
  have H := Lib.hid h
  have HM := Lib.hid hm
  have HR := Lib.hid hr
  have HBL := Lib.hid hbl
  have HO : Hid (∀ b off, A = some ⟨b, off, none⟩ → ¬ (b = p ∨ b = q)) := fun b off e h => h.elim (ho b off e) (hoq b off e)
  clear h hm hr hbl hpl hql hpq ho hoq
  go_enter Try.func147, Try.ntmps147
  go_wp2
  go_loopw [9, 14] (fun v i wr => ∃ (a b pk : Nat) (o : Opt) (acc : List RR), i = .int .i64 (a : Int) ∧ a + b = k ∧ Hid (NewE encRR 84 w.heap.size wr v acc) ∧ Hid (acc.length ≤ a) ∧ Hid (MRd wr p (.slice A n c) (pk : Int)) ∧ Hid (MRow wr q s (setO m o)) ∧ Hid (Chg (fun z => z = p ∨ z = q) w wr) ∧ Hid (dRRs bs x k pos ⟨m.edns, m.size⟩ [] = dRRs bs x b pk o acc)) (fun _ i _ => k - (intOf i).toNat)
  case atStart => exact ⟨0, k, pos, ⟨m.edns, m.size⟩, [], rfl, Nat.zero_add _, NewE.nil _ _ _ _, Nat.le_refl _, H, HM, Chg.refl _ _, rfl⟩
  case round =>
    obtain ⟨a, b, pk, o, acc, rfl, hab, HOWN, HAL, HP, HQ, HC, HE⟩ := hrel
    clear H HM
    rcases b with _ | b
    · have hak : ¬ (a : Int) < (k : Int) := by omega
      have he : dRRs bs x k pos ⟨m.edns, m.size⟩ [] = .ok (acc, pk, o) := HE.out
      rw [he]
      go_wp2
      go_ret
      exact ⟨_, rfl, HOWN.out, HP.out, HQ.out, HC.out⟩
    · have hak : (a : Int) < (k : Int) := by omega
      obtain ⟨c0, c1, f0⟩ := HP.out.cells
      have d0 := below_cell bl.drew c0
      have d1 := below_cell bl.drew c1
      have HR1 : Hid (RdB wr A n bs) := HR.out.chg HC.out (fun b off e => HO.out b off e)
      have HBL1 : Hid (∀ b off, A = some ⟨b, off, none⟩ → b < wr.heap.size) := fun b off e => Nat.lt_of_lt_of_le (HBL.out b off e) HC.out.size
      obtain ⟨⟨r, nxt, er⟩, hg⟩ : ∃ g, g = getRR bs pk := ⟨_, rfl⟩
      have HG := Lib.hid hg.symm
      have hwg : ∀ w1 : World, RdB w1 A n bs → (∀ b off, A = some ⟨b, off, none⟩ → b < w1.heap.size) → Calls Try.prog 182 #[.slice A n c, .int .i64 (pk : Int)] w1 (RetP (goodRR bs pk w1) w1) := fun w1 h1 h2 => rrget_any w1 A n c pk bs h1 h2 hn hc hn2
      have HW : Hid (∀ w1 : World, RdB w1 A n bs → (∀ b off, A = some ⟨b, off, none⟩ → b < w1.heap.size) → Calls Try.prog 182 #[.slice A n c, .int .i64 (pk : Int)] w1 (RetP (fun v w' => ∃ t, v = .tuple #[rrV t r, .int .i64 nxt, .int .i64 er] ∧ RGot w' w1.heap.size t r) w1)) := fun w1 h1 h2 => by
        have h3 := hwg w1 h1 h2
        unfold goodRR at h3
        rw [← hg] at h3
        exact h3
      clear hwg hg
      go_upto_region 4 with (fail)
      go_cut [10, 11, 12] (fun gv nv ev wc => ∃ (g : Nat) (t : RS), gv = .pointer (some ⟨g, 0, none⟩) ∧ nv = .int .i64 nxt ∧ ev = .int .i64 er ∧ Hid (RecSt wr wc g t r))
      case first =>
        have a0 := below_cell (bl.alloc (Nat.le_refl _) (.cells #[.slice none 0 0, .int .i64 0, .int .i64 0, .int .i64 0, .slice none 0 0, .slice none 0 0, .slice none 0 0, .slice none 0 0, .slice none 0 0] 84)) c0
        have a1 := below_cell (bl.alloc (Nat.le_refl _) (.cells #[.slice none 0 0, .int .i64 0, .int .i64 0, .int .i64 0, .slice none 0 0, .slice none 0 0, .slice none 0 0, .slice none 0 0, .slice none 0 0] 84)) c1
        have a2 := below_cell bl.drew a0
        have a3 := below_cell bl.drew a1
        have HRd : Hid (RdB wr.drew A n bs) := HR1.out.below bl.drew
        have HBLd : Hid (∀ b off, A = some ⟨b, off, none⟩ → b < wr.drew.heap.size) := HBL1.out
        have HA : Hid (Below wr.heap.size wr (wr.alloc (.cells #[.slice none 0 0, .int .i64 0, .int .i64 0, .int .i64 0, .slice none 0 0, .slice none 0 0, .slice none 0 0, .slice none 0 0, .slice none 0 0] 84)).drew) := (bl.alloc (Nat.le_refl _) (.cells #[.slice none 0 0, .int .i64 0, .int .i64 0, .int .i64 0, .slice none 0 0, .slice none 0 0, .slice none 0 0, .slice none 0 0, .slice none 0 0] 84)).trans (Below.mono bl.drew (by simp))
        have HR2 : Hid (RdB (wr.alloc (.cells #[.slice none 0 0, .int .i64 0, .int .i64 0, .int .i64 0, .slice none 0 0, .slice none 0 0, .slice none 0 0, .slice none 0 0, .slice none 0 0] 84)).drew A n bs) := HR1.out.below HA.out
        have HBL2 : Hid (∀ b off, A = some ⟨b, off, none⟩ → b < (wr.alloc (.cells #[.slice none 0 0, .int .i64 0, .int .i64 0, .int .i64 0, .slice none 0 0, .slice none 0 0, .slice none 0 0, .slice none 0 0, .slice none 0 0] 84)).drew.heap.size) := fun b off e => Nat.lt_of_lt_of_le (HBL1.out b off e) HA.out.size
        go_region_held3 (fun w' => w'.cell? ⟨p, 0, none⟩ = some (.slice A n c) ∧ w'.cell? ⟨p, 1, none⟩ = some (.int .i64 (pk : Int)))
          (first
            | with_reducible exact ⟨c0, c1⟩
            | with_reducible exact ⟨d0, d1⟩
            | with_reducible exact ⟨y0, y1⟩
            | with_reducible exact ⟨a0, a1⟩
            | with_reducible exact ⟨a2, a3⟩
            | with_reducible exact ⟨y2, y3⟩
            | with_reducible exact ⟨y4, y5⟩
            | fail)
          (first
            | (go_at_call 182; (with_reducible refine (HW.out wr.drew HRd.out HBLd.out).mono ?_); go_must (rintro e w2 ⟨v2, rfl, ⟨t, rfl, hgot2⟩, hb2'⟩; unfold rrV rrCells; have hb2 : Below wr.heap.size wr w2 := bl.drew.trans hb2'; have y0 := below_cell hb2 c0; have y1 := below_cell hb2 c1; have y2 := below_cell (bl.alloc (Nat.le_refl _) (.cells #[.slice none 0 0, .int .i64 0, .int .i64 0, .int .i64 0, .slice none 0 0, .slice none 0 0, .slice none 0 0, .slice none 0 0, .slice none 0 0] 84)) y0; have y3 := below_cell (bl.alloc (Nat.le_refl _) (.cells #[.slice none 0 0, .int .i64 0, .int .i64 0, .int .i64 0, .slice none 0 0, .slice none 0 0, .slice none 0 0, .slice none 0 0, .slice none 0 0] 84)) y1; have HF := Lib.hid (RecSt.after hb2 hgot2); have y4 := below_cell HF.out.bw c0; have y5 := below_cell HF.out.bw c1; unfold rrCells at HF y4 y5))
            | (go_at_call 182; (with_reducible refine (HW.out (wr.alloc (.cells #[.slice none 0 0, .int .i64 0, .int .i64 0, .int .i64 0, .slice none 0 0, .slice none 0 0, .slice none 0 0, .slice none 0 0, .slice none 0 0] 84)).drew HR2.out HBL2.out).mono ?_); go_must (rintro e w2 ⟨v2, rfl, ⟨t, rfl, hgot2⟩, hb2'⟩; unfold rrV rrCells; have hb2 : Below wr.heap.size wr w2 := HA.out.trans (Below.mono hb2' (by show _ ≤ (wr.alloc _).heap.size; simp)); have y0 := below_cell hb2 c0; have y1 := below_cell hb2 c1; have HST := Lib.hid (RecSt.st hb2'); have k0 : w2.cell? ⟨wr.heap.size, 0, none⟩ = some (.slice none 0 0) := (HST.out.R.cell 0).trans rfl; have k1 : w2.cell? ⟨wr.heap.size, 1, none⟩ = some (.int .i64 0) := (HST.out.R.cell 1).trans rfl; have k2 : w2.cell? ⟨wr.heap.size, 2, none⟩ = some (.int .i64 0) := (HST.out.R.cell 2).trans rfl; have k3 : w2.cell? ⟨wr.heap.size, 3, none⟩ = some (.int .i64 0) := (HST.out.R.cell 3).trans rfl; have k4 : w2.cell? ⟨wr.heap.size, 4, none⟩ = some (.slice none 0 0) := (HST.out.R.cell 4).trans rfl; have k5 : w2.cell? ⟨wr.heap.size, 5, none⟩ = some (.slice none 0 0) := (HST.out.R.cell 5).trans rfl; have k6 : w2.cell? ⟨wr.heap.size, 6, none⟩ = some (.slice none 0 0) := (HST.out.R.cell 6).trans rfl; have k7 : w2.cell? ⟨wr.heap.size, 7, none⟩ = some (.slice none 0 0) := (HST.out.R.cell 7).trans rfl; have k8 : w2.cell? ⟨wr.heap.size, 8, none⟩ = some (.slice none 0 0) := (HST.out.R.cell 8).trans rfl; have kf := HST.out.R.free; have HF := Lib.hid (RecSt.ahead hb2' hgot2); have y4 := below_cell HF.out.bw c0; have y5 := below_cell HF.out.bw c1; unfold put9 at HF y4 y5))
            | fail)
        all_goals
          go_wp2
          go_meet
          case rel => exact ⟨_, _, rfl, rfl, rfl, HF⟩
      case rest =>
        obtain ⟨g, t, rfl, rfl, rfl, HRS⟩ := hcut
        clear c0 c1 d0 d1 f0 HW HR1 HBL1
        have HBC : Hid (Below wr.heap.size wr wc) := HRS.out.bw
        have HP3 := Lib.hid (HP.out.below HBC.out)
        have HQ3 := Lib.hid (HQ.out.below HBC.out)
        have HPS : Hid (p < wr.heap.size) := Nat.lt_of_lt_of_le HPL.out HC.out.size
        have HQS : Hid (q < wr.heap.size) := Nat.lt_of_lt_of_le HQL.out HC.out.size
        by_cases he : er = 0
        · subst he
          obtain ⟨p1, hp1⟩ : ∃ p1 : Nat, nxt = (p1 : Int) := Int.eq_ofNat_of_zero_le (by have h1 := getRR_nn bs pk; rw [HG.out] at h1; exact h1)
          subst hp1
          have HFR : Hid (FineR r) := by have h1 := getRR_fine (b := bs) (a := (pk : Int)); rw [HG.out] at h1; exact h1 rfl
          obtain ⟨_, cw1, fp⟩ := HP3.out.cells
          obtain ⟨w4, hw4⟩ : ∃ u, u = wc.setCell ⟨p, 1, none⟩ (.int .i64 (p1 : Int)) := ⟨_, rfl⟩
          have hc4 : Chg (fun z => z = p) wc w4 := by rw [hw4]; exact chg_g1 _ _ _ _
          have HP4 : Hid (MRd w4 p (.slice A n c) (p1 : Int)) := by show MRd _ _ _ _; rw [hw4]; exact HP3.out.move _
          have HQ4 : Hid (MRow w4 q s (setO m o)) := hc4.heap HQ3.out (fun e => HPQ.out e.symm)
          have HR4 : Hid (RRow w4 g t r) := hc4.heap HRS.out.R (by have h1 := HPS.out; have h2 := HRS.out.ge; omega)
          have HC4 : Hid (Chg (fun z => z = p ∨ z = q) w w4) := (HC.out.nx HBC.out).trans hc4 (fun z h => .inl (.inl h))
          have HRIN : Hid (RIn (geS wr.heap.size w4) w4 t r) := (HRS.out.G.chg hc4 (fun z h1 _ h2 => by have h3 := HPS.out; omega)).rin2 HFR.out
          have HGE : Hid (wr.heap.size ≤ g) := HRS.out.ge
          have HO4 : Hid (NewE encRR 84 w.heap.size w4 u9 acc) := by
            obtain ⟨S, h1, h2⟩ := HOWN.out.below HBC.out
            exact ⟨S, h1.chg hc4 (fun z hz e => by have h3 := (h1.lt z hz).1; have h4 := HPL.out; omega) (fun z hz e => by have h3 := h2 z hz; have h4 := HPL.out; omega), h2⟩
          have HOL : Hid (∀ z, u9.ownBlock = some z → z < wr.heap.size) := fun z hz => by
            obtain ⟨S, h1, h2⟩ := HOWN.out
            exact (h1.lt z hz).2
          have HZ4 : Hid (wr.heap.size ≤ w4.heap.size) := Nat.le_trans HBC.out.size hc4.size
          go_upto_region 9 with (fail)
          rw [← hw4]
          clear hw4 hc4 HP3 HQ3 HRS HOWN fp cw1
          obtain ⟨x0, x1, x2, x3, x4, x5, x6, x7, x8⟩ := HR4.out.cells
          by_cases ht : r.type = 41
          · obtain ⟨_, _, _, _, _, _, _, _, _, _, _, _, z12, z13⟩ := HQ4.out.cells
            have z12' : w4.cell? ⟨q, 12, none⟩ = some (.bool o.edns) := z12
            have z13' : w4.cell? ⟨q, 13, none⟩ = some (.int .i64 o.size) := z13
            have f12 := HQ4.out.free 12
            have f13 := HQ4.out.free 13
            clear z12 z13
            rw [ht] at x1
            cases hx : x with
            | false =>
              have HX := Lib.hid (HE.out.trans (dRRs_bad HG.out ht (.inl hx)))
              subst hx
              go_wp2
              refine ⟨rfl, ?_⟩
              rw [HX.out]
              exact ⟨rfl, HC4.out⟩
            | true =>
              subst hx
              cases he : o.edns with
              | true =>
                have HX := Lib.hid (HE.out.trans (dRRs_bad HG.out ht (.inr (.inl he))))
                rw [he] at z12'
                clear he
                go_wp2
                refine ⟨rfl, ?_⟩
                rw [HX.out]
                exact ⟨rfl, HC4.out⟩
              | false =>
                rw [he] at z12'
                by_cases hnm : r.name = []
                · have hgood : ¬ (true = false ∨ o.edns = true ∨ r.name ≠ []) := fun h => h.elim (fun h => by cases h) (fun h => h.elim (fun h => by rw [he] at h; cases h) (fun h => h hnm))
                  have HX := Lib.hid (HE.out.trans (dRRs_opt HG.out ht hgood))
                  have hnl : r.name.length = 0 := by rw [hnm]; rfl
                  rw [hnl] at x0
                  have hgq : ¬ q = g := by have h1 := HQS.out; have h2 := HGE.out; omega
                  have sA : Chg (fun z => z = q) w4 (w4.setCell ⟨q, 12, none⟩ (.bool true)) := chg_g1 _ _ _ _
                  have sB : Chg (fun z => z = q) w4 ((w4.setCell ⟨q, 12, none⟩ (.bool true)).setCell ⟨q, 13, none⟩ (.int .i64 r.cls)) := sA.setCell (p := ⟨q, 13, none⟩) (Or.inl rfl) _
                  have e1 : (w4.setCell ⟨q, 12, none⟩ (.bool true)).cell? ⟨g, 2, none⟩ = some (.int .i64 r.cls) := sA.cell x2 (fun e => hgq e.symm)
                  have e2 : ((w4.setCell ⟨q, 12, none⟩ (.bool true)).setCell ⟨q, 13, none⟩ (.int .i64 r.cls)).cell? ⟨g, 2, none⟩ = some (.int .i64 r.cls) := sB.cell x2 (fun e => hgq e.symm)
                  have e0' : w4.drew.cell? ⟨g, 2, none⟩ = some (.int .i64 r.cls) := x2
                  have e1' : (w4.setCell ⟨q, 12, none⟩ (.bool true)).drew.cell? ⟨g, 2, none⟩ = some (.int .i64 r.cls) := e1
                  have e2' : ((w4.setCell ⟨q, 12, none⟩ (.bool true)).setCell ⟨q, 13, none⟩ (.int .i64 r.cls)).drew.cell? ⟨g, 2, none⟩ = some (.int .i64 r.cls) := e2
                  have HCB := Lib.hid sB
                  clear he hnm hnl sA sB hgood
                  go_upto_region 8 with (fail)
                  go_region_held3 (fun w' => w'.cell? ⟨g, 2, none⟩ = some (.int .i64 r.cls))
                    (first
                      | with_reducible exact x2
                      | with_reducible exact e0'
                      | with_reducible exact e1
                      | with_reducible exact e2
                      | with_reducible exact e1'
                      | with_reducible exact e2'
                      | fail)
                    (fail)
                  clear x0 x1 x2 x3 x4 x5 x6 x7 x8 e0' e1 e2 e1' e2' z12' z13' f12 f13
                  obtain ⟨w5, hw5⟩ : ∃ u, u = (w4.setCell ⟨q, 12, none⟩ (.bool true)).setCell ⟨q, 13, none⟩ (.int .i64 r.cls) := ⟨_, rfl⟩
                  rw [← hw5] at HCB
                  have HQ5 : Hid (MRow w5 q s (setO m ⟨true, r.cls⟩)) := by
                    show MRow _ _ _ _
                    rw [hw5]
                    exact (HQ4.out.put 12 (.bool true) s (setO m ⟨true, o.size⟩) rfl).put 13 (.int .i64 r.cls) s (setO m ⟨true, r.cls⟩) rfl
                  try rw [← hw5]
                  clear hw5
                  go_wp2
                  go_roundw
                  case rel =>
                    have hP5 : MRd w5 p (.slice A n c) (p1 : Int) := HCB.out.heap HP4.out HPQ.out
                    have hO5 : NewE encRR 84 w.heap.size w5 u9 acc := by
                      obtain ⟨S, h1, h2⟩ := HO4.out
                      exact ⟨S, h1.chg HCB.out (fun z hz e => by have h3 := (h1.lt z hz).1; have h4 := HQL.out; omega) (fun z hz e => by have h3 := h2 z hz; have h4 := HQL.out; omega), h2⟩
                    have hC5 : Chg (fun z => z = p ∨ z = q) w w5 := HC4.out.trans HCB.out (fun z h => .inl (.inr h))
                    exact ⟨a + 1, b, p1, ⟨true, r.cls⟩, acc, by go_num, by omega, NewE.below hO5 bl.drew, Nat.le_succ_of_le HAL.out, hP5.below bl.drew, HQ5.out.below bl.drew, Chg.drew hC5, HX.out⟩
                  case measure => simp [intOf]; omega
                · have HX := Lib.hid (HE.out.trans (dRRs_bad HG.out ht (.inr (.inr hnm))))
                  have hnl : (0 : Int) < (r.name.length : Int) := by have := List.length_pos_iff.2 hnm; omega
                  clear he hnm
                  go_wp2
                  refine ⟨rfl, ?_⟩
                  rw [HX.out]
                  exact ⟨rfl, HC4.out⟩
          · have HE2 := Lib.hid (HE.out.trans (dRRs_one HG.out ht))
            have hal : acc.length ≤ 65535 := by have := HAL.out; omega
            have HALX := Lib.hid hal
            obtain ⟨SO, hown, hSO⟩ := HO4.out
            have hrow : encRR.R (geS wr.heap.size w4) w4 [.slice t.A r.name.length t.c, .int .i64 r.type, .int .i64 r.cls, .int .i64 r.ttl, .slice t.d.A0 r.data.bytes.length t.d.c0, .slice t.d.A1 r.data.host.length t.d.c1, .slice t.d.A2 r.data.mail.length t.d.c2, .slice t.d.A3 r.data.nums.length t.d.c3, .slice t.d.A4 r.data.texts.length t.d.c4] r := ⟨_, rfl, HRIN.out⟩
            have HSO : Hid (∀ b, SO b → w.heap.size ≤ b) := hSO
            have HLT := Lib.hid hown.lt
            clear hal hSO
            go_wp2_with (first
              | ((with_reducible show wpList _ _ _ (⟨some 52, _, _, _, _, _⟩ :: _) _ _); refine wpL_pushE elRR rfl (.tmp 49) (.tmp 51) rfl w.heap.size _ acc rfl hown _ r hrow ?hS rfl ?hb ?hl ?hbase ?_; rotate_right; intro v5 w5 hown5 hg5 hat5)
              | fail)
            · go_roundw
              case rel =>
                have hch5 : Chg (fun z => u9.ownBlock = some z) w4 w5 := (Chg.refl _ _).grown hg5 (fun k hk => .inl hk)
                have hS5 : ∀ b, (orS SO (geS wr.heap.size w4)) b → w.heap.size ≤ b := fun z hz => by
                  rcases hz with hz | hz
                  · exact HSO.out z hz
                  · have h1 := hz.1; have h2 := HC.out.size; omega
                have hl5 : (acc ++ [r]).length ≤ a + 1 := by rw [List.length_append, List.length_singleton]; have := HAL.out; omega
                have hP5 : MRd w5 p (.slice A n c) (p1 : Int) := hch5.heap HP4.out (fun e => by have h1 := (HLT.out p e).1; have h2 := HPL.out; omega)
                have hQ5 : MRow w5 q s (setO m o) := hch5.heap HQ4.out (fun e => by have h1 := (HLT.out q e).1; have h2 := HQL.out; omega)
                have hC5 : Chg (fun z => z = p ∨ z = q) w w5 := HC4.out.grown hg5 (fun z hz => .inr (HLT.out z hz).1)
                exact ⟨a + 1, b, p1, o, acc ++ [r], by go_num, by omega, ⟨_, hown5, hS5⟩, hl5, hP5, hQ5, hC5, HE2.out⟩
              case measure => simp [intOf]; omega
            case hS =>
              intro z hz
              refine ⟨hz.2, fun he => ?_⟩
              have h1 := HOL.out z he.symm
              have h2 := hz.1
              omega
            case hb => have := HALX.out; omega
            case hl => have := HALX.out; unfold maxLen; omega
            case hbase => have h1 := HZ4.out; have h3 := HC.out.size; omega
        · have HX := Lib.hid (HE.out.trans (dRRs_err (by rw [HG.out]; exact he)))
          go_wp2
          refine ⟨rfl, ?_⟩
          rw [HX.out, HG.out]
          exact ⟨rfl, HC.out.nx HBC.out⟩
end Go.Proofs.Ytimkdpkhdbiniaa

/- append(s, y), as a step of a region that draws its order. -/
namespace Go.Proofs.Ytimkdpkhdbiniaa
open Go.RowKit

theorem step_pushE {α : Type} {P : Program} {T e : TypeId} {E : Enc α} {bytes : Nat} {w : World} (ht : ElT P T e E bytes) {ops : Array Oper} {o : Oper} {a : Act} {K : Act → World → Prop} {Q : Exit → Act → World → Prop} {X : Prop} (hgd : Region.wanted o (yielded ops a.tmps) = true) (s x : Operand)
    (ho : o.op = .call { callee := .builtin .append, args := #[s, x], argTypes := #[T, T] })
    (base : Nat) (v : Value) (xs : List α) {S : Nat → Prop} (hs : a.eval s = v) (hown : OwnE E e S w base v xs) (r : List Value) (y : α) {S' : Nat → Prop} (hr : E.R S' w r y) (hS' : ∀ b, S' b → b < w.heap.size ∧ some b ≠ v.ownBlock)
    {g : Nat} (hx : a.eval x = .slice (some ⟨g, 0, none⟩) 1 1) (hb : (xs.length + 1) * bytes ≤ 140737488355328) (hl : xs.length + 1 ≤ maxLen) (hbase : base ≤ w.heap.size)
    (h : ∀ v' w', OwnE E e (orS S S') w' base v' (xs ++ [y]) → w.grownBy w' v.ownBlock → (v'.ownBlock = v.ownBlock ∨ v'.ownBlock = some (w.heap.size + 1)) → K (a.put o.dst v') w') (hgs : g = w.heap.size) :
    if Region.wanted o (yielded ops a.tmps) = true then Oper.wp P o a (w.alloc (.cells r.toArray e)) K Q else X := by
  rw [if_pos hgd]
  subst hgs
  obtain ⟨hT, i, z, hi, hz, hsz, hby, hzc⟩ := ht
  have hlt := hown.lt
  obtain ⟨cells, hw, hread, hS⟩ := hown
  have hrl := E.len hr
  refine wp_append_any (P := P) s x _ ho base e i z E.size bytes hT hi hz hsz hby hzc E.pos v xs.length _ hs (hw.alloc _) _ 1 1 r hx ⟨by rw [hrl, Nat.one_mul], fun _ => ⟨w.heap.size, 0, rfl, fun j u hu => ?_⟩⟩ (E.one hr) hl (by simpa using hb) (by simp; omega) fun v' w' h1 h2 h3 => h v' w' ?_ ((World.grownBy_alloc w _ _).trans h2) (by simpa using h3)
  · have := (World.ownsRow_lit (base := 0) (e := e) (size := E.size) w r.toArray 1 (Nat.zero_le _) (by simp [maxLen]) (by simp [hrl])).cells (g := w.heap.size) rfl j u (by simpa using hu)
    rwa [add_flat] at this
  · have hbl : ∀ b, b < w.heap.size → some b ≠ v.ownBlock → w'.heap[b]? = w.heap[b]? := fun b hb1 hb2 => ((World.grownBy_alloc w _ _).trans h2).block b hb1 hb2
    have hsize : w.heap.size ≤ w'.heap.size := ((World.grownBy_alloc w _ v.ownBlock).trans h2).size
    refine ⟨cells ++ r, by rw [List.length_append]; exact h1, fun j y' hy => ?_, fun b hb' => ?_⟩
    · by_cases hj : j < xs.length
      · rw [List.getElem?_append_left hj] at hy
        rw [chunk hw.1 hy rfl]
        exact E.mono (fun b hb' => .inl hb') (E.keep (fun b hb' => hbl b (hS b hb').1 (hS b hb').2) (hread j y' hy))
      · rw [List.getElem?_append_right (by omega)] at hy
        have hj0 : j = xs.length := by
          have := (List.getElem?_eq_some_iff.1 hy).1
          simp at this
          omega
        subst hj0
        simp at hy
        subst hy
        rw [List.drop_append_of_le_length (by rw [hw.1]; omega), List.drop_of_length_le (by rw [hw.1]; omega), List.nil_append, List.take_of_length_le (by omega)]
        exact E.mono (fun b hb' => .inr hb') (E.keep (fun b hb' => hbl b (hS' b hb').1 (hS' b hb').2) hr)
    · have hb2 : b < w.heap.size ∧ some b ≠ v.ownBlock := hb'.elim (fun h => hS b h) (fun h => hS' b h)
      refine ⟨Nat.lt_of_lt_of_le hb2.1 hsize, ?_⟩
      rcases h3 with h3 | h3
      · rw [h3]; exact hb2.2
      · rw [h3]
        intro hc
        injection hc with hc
        simp at hc
        omega
end Go.Proofs.Ytimkdpkhdbiniaa
