/- Parts of a proof, joined: CdP. -/
import Derived.Test.YtimkdpkhdbiniaaSDF06
import Derived.Test.YtimkdpkhdbiniaaSDM06
/- code.Decode, in plain Lean: what its reader reads; an entry's bytes are read as it is. No program in it. -/
namespace Go.Proofs.Ytimkdpkhdbiniaa
open Go.RowKit
set_option maxRecDepth 100000

/-- A number at a place, and the place behind it; none: the reader gives up. -/
def rdN (b : List UInt8) (p k : Nat) : Option (Int × Nat) := if b.length < p + k then none else some ((numA b p k : Int), p + k)
def rdName (b : List UInt8) (p : Nat) : Option (List (List UInt8) × Nat) := if (nameA b p).2.2 ≠ 0 then none else some ((nameA b p).1, (nameA b p).2.1.toNat)
/-- Data that stand by themselves, as long as said. -/
def rdCut (b : List UInt8) (p z : Nat) (k : Int) : Option (Da × Nat) :=
  if b.length < p + z then none
  else if (getD ((b.drop p).take z) 0 (z : Int) k).2 ≠ 0 then none
  else some ((getD ((b.drop p).take z) 0 (z : Int) k).1, p + z)
def rdData (b : List UInt8) (p : Nat) (k : Int) : Option (Da × Nat) := (rdN b p 2).bind fun x => rdCut b x.2 x.1.toNat k
def rdDatas (b : List UInt8) (k : Int) : Nat → Nat → List Da → Option (List Da × Nat)
  | 0, p, acc => some (acc, p)
  | n + 1, p, acc => (rdData b p k).bind fun x => rdDatas b k n x.2 (acc ++ [x.1])
def rdFact (b : List UInt8) (p : Nat) : Option (Fa × Nat) :=
  (rdName b p).bind fun x1 => (rdN b x1.2 2).bind fun x2 => (rdN b x2.2 1).bind fun x3 => (rdN b x3.2 1).bind fun x4 => (rdN b x4.2 7).bind fun x5 => (rdN b x5.2 4).bind fun x6 =>
    if x3.1 = 1 then
      (if typedB x2.1 then (rdN b x6.2 1).bind fun x7 => (rdDatas b x2.1 x7.1.toNat x7.2 []).bind fun x8 => some (⟨x1.1, x2.1, x3.1, x4.1, x5.1, x6.1, x8.1, [], Da.zero⟩, x8.2)
       else none)
    else (rdName b x6.2).bind fun x7 => (rdData b x7.2 6).bind fun x8 => some (⟨x1.1, x2.1, x3.1, x4.1, x5.1, x6.1, [], x7.1, x8.1⟩, x8.2)
/-- What the reader reads. -/
def entryP (b : List UInt8) : Option En :=
  (rdN b 0 1).bind fun x =>
    if x.1 = 1 then (rdFact b x.2).bind fun y => some ⟨x.1, 0, y.1, []⟩
    else if x.1 = 2 then (rdName b x.2).bind fun y => some ⟨x.1, 0, Fa.zero, y.1⟩
    else if x.1 = 3 then (rdN b x.2 7).bind fun y => some ⟨x.1, y.1, Fa.zero, []⟩
    else some ⟨x.1, 0, Fa.zero, []⟩
/-- The entry of bytes. -/
noncomputable def decE (b : List UInt8) : Option En := match entryP b with
  | none => none
  | some x => if fineE x = true ∧ (enW x).b = b then some x else none

/-- Bytes begin with what was written. -/
def Pre (x : Wr) (b : List UInt8) : Prop := ∃ y, b = x.b ++ y
theorem Pre.raw {x : Wr} {l b : List UInt8} (h : Pre (x.raw l) b) : Pre x b := by
  obtain ⟨y, rfl⟩ := h
  exact ⟨l ++ y, by show (x.b ++ l) ++ y = _; rw [List.append_assoc]⟩
theorem Pre.len {x : Wr} {b : List UInt8} (h : Pre x b) : x.b.length ≤ b.length := by
  obtain ⟨y, rfl⟩ := h
  rw [List.length_append]; omega
theorem Pre.name {x : Wr} {n : List (List UInt8)} {s : Bool} {b : List UInt8} (h : Pre (x.nameS n s) b) : Pre x b := by
  unfold Wr.nameS at h
  split at h
  · obtain ⟨y, rfl⟩ := h
    obtain ⟨z, hz, _⟩ := Wr.name_b (x := x) n s
    exact ⟨z ++ y, by rw [hz, List.append_assoc]⟩
  · exact h
theorem Pre.seg {x : Wr} {l b : List UInt8} (h : Pre (x.raw l) b) : Seg b x.b.length l := by
  obtain ⟨y, rfl⟩ := h
  exact ⟨x.b, y, rfl, rfl⟩
theorem rdN_back {x : Wr} {n z : Int} {b : List UInt8} (hf : fitsB n z = true) (h : Pre (x.raw (putB [] n z)) b) : rdN b x.b.length z.toNat = some (n, (x.raw (putB [] n z)).b.length) := by
  have h1 := h.len
  rw [raw_len, putB_len_fit hf] at h1
  unfold rdN
  rw [if_neg (by omega), numA_seg hf h.seg, raw_len, putB_len_fit hf]
theorem rdName_back {x : Wr} (hx : x.True) {n : List (List UInt8)} {b : List UInt8} (hn : soundB n = true) (h : Pre (x.nameS n false) b) : rdName b x.b.length = some (n, (x.nameS n false).b.length) := by
  have hs := soundB_iff.1 hn
  have e : x.nameS n false = x.name n false := by unfold Wr.nameS; rw [if_pos hn]
  rw [e] at h ⊢
  obtain ⟨y, rfl⟩ := h
  have ht := hx.name hs.1 false
  have hname : nameA ((x.name n false).b ++ y) (x.b.length : Int) = (n, ((x.name n false).b.length : Int), 0) := by
    unfold nameA
    rw [if_neg (by omega), Int.toNat_natCast, (ht.2.ext _).read 0 [] (by simpa using hs.2), List.nil_append, Nat.zero_max]
  unfold rdName
  rw [hname]
  simp
theorem Wr.True.nameS {x : Wr} (hx : x.True) {n : List (List UInt8)} (hn : soundB n = true) (s : Bool) : (x.nameS n s).True := by
  unfold Wr.nameS
  rw [if_pos hn]
  exact (hx.name (soundB_iff.1 hn).1 s).1
theorem one_fits {k : Int} {d : Da} (h : FineD k d) : fitsB ((oneW k d).b.length : Int) 2 = true := by
  have h1 := Wr.data_len Wr.nil h.2
  have h0 : Wr.nil.b.length = 0 := rfl
  exact fits2 (by unfold oneW; omega)
theorem rdData_back {x : Wr} {k : Int} {d : Da} {b : List UInt8} (hd : FineD k d) (h : Pre (x.dat k d) b) : rdData b x.b.length k = some (d, (x.dat k d).b.length) := by
  have hf := one_fits hd
  have h1 := rdN_back hf (Pre.raw h)
  have h2 := Pre.len h
  have h3 := (Pre.seg h).cut
  have h4 := getD_back (x := Wr.nil) Wr.true_nil hd [] (z := (oneW k d).b.length) (by show 0 + _ = _; rw [Nat.zero_add]; rfl)
  have e : (x.dat k d).b.length = (x.raw (putB [] ((oneW k d).b.length : Int) 2)).b.length + (oneW k d).b.length := by unfold Wr.dat; rw [raw_len]
  unfold rdData
  rw [show (2 : Nat) = (2 : Int).toNat from rfl, h1]
  show rdCut b _ ((oneW k d).b.length : Int).toNat k = _
  rw [Int.toNat_natCast]
  unfold rdCut
  rw [if_neg (by omega), h3]
  have h5 : getD (oneW k d).b 0 ((oneW k d).b.length : Int) k = (d, 0) := by
    rw [List.append_nil] at h4
    exact h4
  rw [h5, e]
  simp
theorem dats_pre {k : Int} {b : List UInt8} : ∀ (l : List Da) (x : Wr), Pre (x.dats k l) b → Pre x b
  | [], _, h => h
  | d :: l, x, h => (Pre.raw (dats_pre l (x.dat k d) h)).raw
theorem rdDatas_back {k : Int} {b : List UInt8} : ∀ (l : List Da) (x : Wr) (acc : List Da), (∀ d ∈ l, FineD k d) → Pre (x.dats k l) b → rdDatas b k l.length x.b.length acc = some (acc ++ l, (x.dats k l).b.length)
  | [], x, acc, _, _ => by simp [rdDatas, Wr.dats]
  | d :: l, x, acc, hf, h => by
    have h1 := rdData_back (hf d (List.mem_cons_self ..)) (dats_pre l (x.dat k d) h)
    rw [List.length_cons, rdDatas, h1]
    show rdDatas b k l.length (x.dat k d).b.length (acc ++ [d]) = _
    rw [rdDatas_back l (x.dat k d) (acc ++ [d]) (fun u hu => hf u (List.mem_cons_of_mem _ hu)) h, List.append_assoc]
    rfl

theorem fits_small {n : Int} (h0 : 0 ≤ n) (h : n < 256) : fitsB n 1 = true := by unfold fitsB; simp; omega
theorem typed_fits {k : Int} (h : typedB k = true) : fitsB k 2 = true := by
  unfold typedB at h
  simp only [Bool.and_eq_true, decide_eq_true_eq] at h
  unfold fitsB; simp; omega
theorem noneD_zero {d : Da} (h : noneD d = true) : d = Da.zero := by
  unfold noneD at h
  simp only [decide_eq_true_eq] at h
  obtain ⟨b, hh, m, n, t⟩ := d
  simp only at h
  obtain rfl := List.eq_nil_of_length_eq_zero (l := b) (by omega)
  obtain rfl := List.eq_nil_of_length_eq_zero (l := hh) (by omega)
  obtain rfl := List.eq_nil_of_length_eq_zero (l := m) (by omega)
  obtain rfl := List.eq_nil_of_length_eq_zero (l := n) (by omega)
  obtain rfl := List.eq_nil_of_length_eq_zero (l := t) (by omega)
  rfl
theorem blank_zero {f : Fa} (h : blankF f = true) : f = Fa.zero := by
  unfold blankF at h
  simp only [Bool.and_eq_true, decide_eq_true_eq, beq_iff_eq] at h
  obtain ⟨⟨⟨⟨⟨h1, h2⟩, h3⟩, h4⟩, h5⟩, h6⟩ := h
  obtain ⟨n, t, k, r, g, l, s, z, d⟩ := f
  simp only at h1 h2 h3 h4 h5 h6
  subst h1 h2 h3 h4 h5
  obtain rfl := List.eq_nil_of_length_eq_zero (l := n) (by omega)
  obtain rfl := List.eq_nil_of_length_eq_zero (l := s) (by omega)
  obtain rfl := List.eq_nil_of_length_eq_zero (l := z) (by omega)
  have hd : d = Da.zero := noneD_zero (by unfold noneD; simp only [decide_eq_true_eq]; omega)
  subst hd
  rfl
/-- A fact that was written is read. (factOk of CodeF gives what the data want.) -/
theorem fact_back {x : Wr} (hx : x.True) {f : Fa} {b : List UInt8} (hf : fineF f = true) (hs : f.kind = 1 → ∀ d ∈ f.set, FineD f.type d) (hd : f.kind ≠ 1 → FineD 6 f.soa) (h : Pre (x.fact f) b) :
    rdFact b x.b.length = some (f, (x.fact f).b.length) := by
  unfold fineF at hf
  simp only [Bool.and_eq_true, decide_eq_true_eq] at hf
  obtain ⟨⟨⟨⟨⟨⟨hn, hr1⟩, hr2⟩, hg⟩, hl1⟩, hl2⟩, hz⟩ := hf
  have ft : fitsB f.type 2 = true := by
    by_cases hk : f.kind = 1
    · rw [if_pos hk] at hz
      unfold fineH at hz
      simp only [Bool.and_eq_true, decide_eq_true_eq] at hz
      exact typed_fits hz.1.1.1.1.1
    · rw [if_neg hk] at hz
      unfold fineN at hz
      simp only [Bool.and_eq_true, Bool.or_eq_true, decide_eq_true_eq] at hz
      rcases hz.2 with h2 | h2
      · exact typed_fits h2.2
      · rw [h2.2]; rfl
  have fk : fitsB f.kind 1 = true := by
    by_cases hk : f.kind = 1
    · rw [hk]; rfl
    · rw [if_neg hk] at hz
      unfold fineN at hz
      simp only [Bool.and_eq_true, Bool.or_eq_true, decide_eq_true_eq] at hz
      rcases hz.2 with h2 | h2
      · rw [h2.1]; rfl
      · rw [h2.1]; rfl
  have fr : fitsB f.rank 1 = true := fits_small (by omega) (by omega)
  have fg : fitsB f.got 7 = true := time_fits hg
  have fl : fitsB f.ttl 4 = true := fits4 hl1 (by omega)
  have H6 : Pre (x.factH f) b := by
    by_cases hk : f.kind = 1
    · unfold Wr.fact at h; rw [if_pos hk] at h; exact (dats_pre _ _ h).raw
    · unfold Wr.fact at h; rw [if_neg hk] at h; exact (h.raw.raw).name
  have H5 := H6.raw
  have H4 := H5.raw
  have H3 := H4.raw
  have H2 := H3.raw
  have H1 := H2.raw
  have e1 := rdName_back hx hn H1
  have e2 := rdN_back ft H2
  have e3 := rdN_back fk H3
  have e4 := rdN_back fr H4
  have e5 := rdN_back fg H5
  have e6 : rdN b _ (4 : Int).toNat = some (f.ttl, (x.factH f).b.length) := rdN_back fl H6
  have ht6 : (x.factH f).True := ((((((hx.nameS hn false).raw _).raw _).raw _).raw _).raw _)
  unfold rdFact
  rw [e1]
  show (rdN b _ (2 : Int).toNat).bind _ = _
  rw [e2]
  show (rdN b _ (1 : Int).toNat).bind _ = _
  rw [e3]
  show (rdN b _ (1 : Int).toNat).bind _ = _
  rw [e4]
  show (rdN b _ (7 : Int).toNat).bind _ = _
  rw [e5]
  show (rdN b _ (4 : Int).toNat).bind _ = _
  rw [e6]
  show (if f.kind = 1 then _ else _) = _
  by_cases hk : f.kind = 1
  · rw [if_pos hk] at hz ⊢
    unfold fineH at hz
    simp only [Bool.and_eq_true, decide_eq_true_eq] at hz
    obtain ⟨⟨⟨⟨⟨z1, z2⟩, z3⟩, _⟩, z4⟩, z5⟩ := hz
    unfold Wr.fact at h ⊢
    rw [if_pos hk] at h ⊢
    have fc : fitsB (f.set.length : Int) 1 = true := fits_small (by omega) (by omega)
    have e7 := rdN_back fc (dats_pre _ _ h)
    have e8 := rdDatas_back f.set _ [] (hs hk) h
    have zz := List.eq_nil_of_length_eq_zero z4
    have zs := noneD_zero z5
    show (if typedB f.type = true then _ else none) = _
    rw [if_pos z1]
    show (rdN b _ (1 : Int).toNat).bind _ = _
    rw [e7]
    show (rdDatas b f.type ((f.set.length : Int)).toNat _ []).bind _ = _
    rw [Int.toNat_natCast, e8]
    obtain ⟨fn, fty, fkd, frk, fgt, ftl, fst, fzn, fso⟩ := f
    simp only at zz zs
    subst zz zs
    rfl
  · rw [if_neg hk] at hz ⊢
    unfold fineN at hz
    simp only [Bool.and_eq_true, Bool.or_eq_true, decide_eq_true_eq] at hz
    obtain ⟨⟨⟨⟨⟨z1, z2⟩, z3⟩, z4⟩, z5⟩, z6⟩ := hz
    unfold Wr.fact at h ⊢
    rw [if_neg hk] at h ⊢
    have e7 := rdName_back ht6 z3 h.raw.raw
    have e8 := rdData_back (hd hk) h
    have zs := List.eq_nil_of_length_eq_zero z2
    show (rdName b _).bind _ = _
    rw [e7]
    show (rdData b _ 6).bind _ = _
    rw [e8]
    obtain ⟨fn, fty, fkd, frk, fgt, ftl, fst, fzn, fso⟩ := f
    simp only at zs
    subst zs
    rfl
/-- An entry that was written is read, whatever stands behind it. -/
theorem entry_back {x : En} {b : List UInt8} (hf : fineE x = true) (hs : x.f.kind = 1 → ∀ d ∈ x.f.set, FineD x.f.type d) (hd : x.kind = 1 → x.f.kind ≠ 1 → FineD 6 x.f.soa) (h : Pre (enW x) b) : entryP b = some x := by
  unfold fineE at hf
  unfold entryP
  unfold enW at h
  obtain ⟨k, t, f, z⟩ := x
  simp only at hf h hs hd ⊢
  by_cases k1 : k = 1
  · subst k1
    rw [if_pos rfl] at hf h
    simp only [Bool.and_eq_true, decide_eq_true_eq, beq_iff_eq] at hf
    obtain ⟨rfl, h2, h3⟩ := hf
    obtain rfl := List.eq_nil_of_length_eq_zero h2
    have ht := Wr.true_nil.raw (putB [] 1 1)
    have hp : Pre (Wr.nil.raw (putB [] 1 1)) b := by
      unfold Wr.fact at h
      split at h
      · exact (dats_pre _ _ h).raw.raw.raw.raw.raw.raw.name
      · exact h.raw.raw.name.raw.raw.raw.raw.raw.name
    have e1 : rdN b 0 1 = some (1, (Wr.nil.raw (putB [] 1 1)).b.length) := rdN_back (x := Wr.nil) (z := 1) rfl hp
    rw [e1]
    show (rdFact b _).bind _ = _
    rw [fact_back ht h3 hs (hd rfl) h]
    rfl
  · rw [if_neg k1] at hf h
    by_cases k2 : k = 2
    · subst k2
      rw [if_pos rfl] at hf h
      simp only [Bool.and_eq_true, beq_iff_eq] at hf
      obtain ⟨rfl, h2, h3⟩ := hf
      have h4 := blank_zero h2
      have ht := Wr.true_nil.raw (putB [] 2 1)
      have hp : Pre (Wr.nil.raw (putB [] 2 1)) b := Pre.name h
      have e1 : rdN b 0 1 = some (2, (Wr.nil.raw (putB [] 2 1)).b.length) := rdN_back (x := Wr.nil) (z := 1) rfl hp
      rw [e1]
      show (rdName b _).bind _ = _
      rw [rdName_back ht h3 h, h4]
      rfl
    · rw [if_neg k2] at hf h
      by_cases k3 : k = 3
      · subst k3
        rw [if_pos rfl] at hf
        simp only [Bool.and_eq_true, decide_eq_true_eq] at hf
        obtain ⟨h1, h2, h3⟩ := hf
        obtain rfl := List.eq_nil_of_length_eq_zero h3
        have h4 := blank_zero h2
        have hp : Pre (Wr.nil.raw (putB [] 3 1)) b := Pre.raw h
        have e1 : rdN b 0 1 = some (3, (Wr.nil.raw (putB [] 3 1)).b.length) := rdN_back (x := Wr.nil) (z := 1) rfl hp
        rw [e1]
        show (rdN b _ (7 : Int).toNat).bind _ = _
        rw [rdN_back (time_fits h1) h, h4]
        rfl
      · rw [if_neg k3] at hf; cases hf
/-- With more behind, none; of a true beginning, none. -/
theorem decE_more {x : En} {y : List UInt8} (hf : fineE x = true) (hs : x.f.kind = 1 → ∀ d ∈ x.f.set, FineD x.f.type d) (hd : x.kind = 1 → x.f.kind ≠ 1 → FineD 6 x.f.soa) (hy : y ≠ []) : decE ((enW x).b ++ y) = none := by
  unfold decE
  rw [entry_back hf hs hd ⟨y, rfl⟩]
  simp only
  rw [if_neg (fun h => hy (by simpa using h.2))]
theorem decE_back {x : En} (hf : fineE x = true) (hs : x.f.kind = 1 → ∀ d ∈ x.f.set, FineD x.f.type d) (hd : x.kind = 1 → x.f.kind ≠ 1 → FineD 6 x.f.soa) : decE (enW x).b = some x := by
  unfold decE
  rw [entry_back hf hs hd ⟨[], by rw [List.append_nil]⟩]
  simp only
  rw [if_pos ⟨hf, trivial⟩]
theorem decE_cut {x : En} {p r : List UInt8} (H : ∀ y : En, fineE y = true → (y.f.kind = 1 → ∀ d ∈ y.f.set, FineD y.f.type d) ∧ (y.kind = 1 → y.f.kind ≠ 1 → FineD 6 y.f.soa)) (hf : fineE x = true) (he : (enW x).b = p ++ r) (hr : r ≠ []) : decE p = none := by
  unfold decE
  cases hp : entryP p with
  | none => rfl
  | some y =>
    simp only
    rw [if_neg]
    rintro ⟨h1, h2⟩
    have a := entry_back h1 (H y h1).1 (H y h1).2 (b := p ++ r) ⟨r, by rw [h2]⟩
    have b := entry_back hf (H x hf).1 (H x hf).2 (b := p ++ r) ⟨[], by rw [List.append_nil, he]⟩
    rw [a] at b
    have e := Option.some.inj b
    rw [e, he] at h2
    exact hr (by simpa using h2)
end Go.Proofs.Ytimkdpkhdbiniaa
