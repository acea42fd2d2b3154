/- Parts of a proof, joined: ShortP. -/
import Derived.Test.YtimkdpkhdbiniaaSDM12
/- MsgShort: a message takes no more than its parts, each whole. No program in it. -/
namespace Go.Proofs.Ytimkdpkhdbiniaa
open Go.RowKit
set_option maxRecDepth 100000

def textsN (ts : List (List UInt8)) : Nat := (ts.map fun t => 1 + t.length).sum
def dSize (d : Da) : Nat := d.bytes.length + sizeN d.host + sizeN d.mail + 4 * d.nums.length + textsN d.texts
def rSize (r : RR) : Nat := sizeN r.name + 10 + dSize r.data
theorem sizeN_pos (ns : List (List UInt8)) : 1 ≤ sizeN ns := by have := sizeN_length ns; omega
theorem textsB_len2 {ts : List (List UInt8)} (h : ∀ t ∈ ts, t.length ≤ 255) : (textsB ts).length ≤ textsN ts := by
  induction ts with
  | nil => simp [textsB]
  | cons t ts ih =>
    have h1 := ih fun u hu => h u (List.mem_cons_of_mem _ hu)
    have h2 := h t (List.mem_cons_self ..)
    have h3 : (putB [] (t.length : Int) 1).length = 1 := putB_len_fit (fits_len h2)
    have h4 : textsN (t :: ts) = 1 + t.length + textsN ts := by simp [textsN]
    rw [textsB_cons, h4]
    simp only [List.length_append, h3]
    omega
theorem Wr.data_len3 (x : Wr) {k : Int} {d : Da} (hf : FineS (shapeP k) d) : (x.data (shapeP k) d).b.length ≤ x.b.length + dSize d := by
  have p1 := sizeN_pos d.host
  have p2 := sizeN_pos d.mail
  rcases shape_cases k with e | e | e | e | e | e | e | e <;> rw [e] at hf ⊢
  · obtain ⟨bs, rfl, hl, e⟩ := data_A (x := x) hf; rw [e]; have := raw_len x bs; show _ ≤ _ + (bs.length + _ + _ + _ + _); omega
  · obtain ⟨bs, rfl, hl, e⟩ := data_Q (x := x) hf; rw [e]; have := raw_len x bs; show _ ≤ _ + (bs.length + _ + _ + _ + _); omega
  · obtain ⟨n, rfl, hn, e⟩ := data_N (x := x) hf; rw [e]
    have h1 := Wr.name_le (x := x) n true
    show _ ≤ _ + (_ + sizeN n + _ + _ + _); omega
  · obtain ⟨ns, n, rfl, hl, hns, hn, e⟩ := data_M (x := x) hf; rw [e]
    have h0 := raw_len x (numsB ns 2); have h00 := numsB_len hns; rw [hl] at h00
    have h1 := Wr.name_le (x := x.raw (numsB ns 2)) n true
    have h7 : (numsB ns 2).length = 2 := h00
    show _ ≤ _ + (_ + sizeN n + _ + 4 * ns.length + _); omega
  · obtain ⟨ns, n, m, rfl, hl, hns, hn, hm, e⟩ := data_S (x := x) hf; rw [e]
    have h0 := raw_len ((x.name n true).name m true) (numsB ns 4); have h00 := numsB_len hns; rw [hl] at h00
    have h1 := Wr.name_le (x := x) n true
    have h1' := Wr.name_le (x := x.name n true) m true
    have h7 : (numsB ns 4).length = 20 := h00
    show _ ≤ _ + (_ + sizeN n + sizeN m + 4 * ns.length + _); omega
  · obtain ⟨ns, n, rfl, hl, hns, hn, e⟩ := data_V (x := x) hf; rw [e]
    have h0 := raw_len x (numsB ns 2); have h00 := numsB_len hns; rw [hl] at h00
    have h1 := Wr.name_le (x := x.raw (numsB ns 2)) n false
    have h7 : (numsB ns 2).length = 6 := h00
    show _ ≤ _ + (_ + sizeN n + _ + 4 * ns.length + _); omega
  · obtain ⟨ts, rfl, h1, h64, ht, e⟩ := data_T (x := x) hf; rw [e]; have := raw_len x (textsB ts); have := textsB_len2 ht
    show _ ≤ _ + (_ + _ + _ + _ + textsN ts); omega
  · obtain ⟨bs, he, e⟩ := data_B (x := x) hf
    rw [e, he]; have := raw_len x bs; show _ ≤ _ + (bs.length + _ + _ + _ + _); omega
theorem textsN_le {ts : List (List UInt8)} (h : ∀ t ∈ ts, t.length ≤ 255) : textsN ts ≤ 256 * ts.length := by
  induction ts with
  | nil => simp [textsN]
  | cons t ts ih =>
    have h1 := ih fun u hu => h u (List.mem_cons_of_mem _ hu)
    have h2 := h t (List.mem_cons_self ..)
    have h4 : textsN (t :: ts) = 1 + t.length + textsN ts := by simp [textsN]
    rw [h4, List.length_cons]
    omega
/-- What fits of a record that may be. -/
structure Fits (r : RR) : Prop where
  n : sizeN r.name ≤ 255
  b : r.data.bytes.length ≤ 65535
  h : sizeN r.data.host ≤ 255
  m : sizeN r.data.mail ≤ 255
  u : r.data.nums.length ≤ 5
  t : r.data.texts.length ≤ 64
  tx : textsN r.data.texts ≤ 16384
theorem fine_fits {r : RR} (h : FineR r) : Fits r := by
  obtain ⟨_, hb, hu, hh, hm, _, ht⟩ := h.2.1.2
  have host : ∀ b n, hostP b n → sizeN n ≤ 255 := fun b n hp => by
    unfold hostP at hp
    split at hp
    · exact hp.2
    · rw [hp]; decide
  have hnu : (shapeP r.type).nums ≤ 5 := by rcases shape_cases r.type with e | e | e | e | e | e | e | e <;> rw [e] <;> decide
  have htx : r.data.texts.length ≤ 64 ∧ textsN r.data.texts ≤ 16384 := by
    unfold textsP at ht
    split at ht
    · have := textsN_le ht.2.2; exact ⟨ht.2.1, by omega⟩
    · rw [ht]; decide
  exact ⟨h.1.2, hb, host _ _ hh, host _ _ hm, by omega, htx.1, htx.2⟩
theorem rSize_le {r : RR} (h : FineR r) : rSize r ≤ 83000 := by
  have f := fine_fits h
  have h1 := f.n; have h2 := f.b; have h3 := f.h; have h4 := f.m; have h5 := f.u; have h6 := f.tx
  unfold rSize dSize
  omega
end Go.Proofs.Ytimkdpkhdbiniaa
