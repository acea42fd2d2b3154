/- Parts of a proof, joined: DecP, DecQ, DecR, DecS, DecT, DecU, DecX. -/
import Derived.Test.YtmkfjddighabcaaM12
/- msg.Decode, in plain Lean; that a message's bytes are read as it is. No program in it. -/
namespace Go.Proofs.Ytmkfjddighabcaa
open Go.RowKit
set_option maxRecDepth 100000

/-- A question at a place. -/
def dQu (b : List UInt8) (p : Nat) : Except Int (Qu × Nat) :=
  if (nameA b p).2.2 ≠ 0 then .error (nameA b p).2.2
  else if b.length < (nameA b p).2.1.toNat + 4 then .error 3
  else if numA b (nameA b p).2.1.toNat 2 = 0 then .error 2
  else .ok (⟨(nameA b p).1, (numA b (nameA b p).2.1.toNat 2 : Int), (numA b ((nameA b p).2.1.toNat + 2) 2 : Int)⟩, (nameA b p).2.1.toNat + 4)
def dQus (b : List UInt8) : Nat → Nat → List Qu → Except Int (List Qu × Nat)
  | 0, p, acc => .ok (acc, p)
  | k + 1, p, acc => match dQu b p with
    | .error e => .error e
    | .ok (q, p') => dQus b k p' (acc ++ [q])
/-- Whether there was an OPT record, and what it said. -/
structure Opt where
  edns : Bool
  size : Int
def dRRs (b : List UInt8) (x : Bool) : Nat → Nat → Opt → List RR → Except Int (List RR × Nat × Opt)
  | 0, p, o, acc => .ok (acc, p, o)
  | k + 1, p, o, acc =>
    if (getRR b p).2.2 ≠ 0 then .error (getRR b p).2.2
    else if (getRR b p).1.type = 41 then
      (if x = false ∨ o.edns = true ∨ (getRR b p).1.name ≠ [] then .error 2 else dRRs b x k (getRR b p).2.1.toNat ⟨true, (getRR b p).1.cls⟩ acc)
    else dRRs b x k (getRR b p).2.1.toNat o (acc ++ [(getRR b p).1])
/-- A bit of the second number. -/
def bitA (b : List UInt8) (n : Nat) : Bool := decide (numA b 2 2 / n % 2 = 1)
def msF (b : List UInt8) (qs : List Qu) (an au ex : List RR) (o : Opt) : Ms :=
  ⟨(numA b 0 2 : Int), bitA b 32768, ((numA b 2 2 / 2048 % 16 : Nat) : Int), bitA b 1024, bitA b 512, bitA b 256, bitA b 128, ((numA b 2 2 % 16 : Nat) : Int), qs, an, au, ex, o.edns, o.size⟩
/-- The message of bytes, or the error. -/
def decP (b : List UInt8) : Except Int Ms :=
  if 65535 < b.length then .error 4
  else if b.length < 12 then .error 3
  else if 513 < numA b 4 2 + numA b 6 2 + numA b 8 2 + numA b 10 2 then .error 4
  else match dQus b (numA b 4 2) 12 [] with
    | .error e => .error e
    | .ok (qs, p1) => match dRRs b false (numA b 6 2) p1 ⟨false, 0⟩ [] with
      | .error e => .error e
      | .ok (an, p2, o2) => match dRRs b false (numA b 8 2) p2 o2 [] with
        | .error e => .error e
        | .ok (au, p3, o3) => match dRRs b true (numA b 10 2) p3 o3 [] with
          | .error e => .error e
          | .ok (ex, p4, o4) => if p4 < b.length then .error 7 else .ok (msF b qs an au ex o4)

theorem Wr.True.qu {x : Wr} (hx : x.True) {q : Qu} (h : FineQ q) : (x.qu q).True := ((hx.name h.1.1 true).1.raw _).raw _
theorem Wr.qu_ext (x : Wr) (q : Qu) : ∃ z, (x.qu q).b = x.b ++ z := by
  obtain ⟨z, hz, _⟩ := Wr.name_b (x := x) q.name true
  exact ⟨z ++ (putB [] q.type 2 ++ putB [] q.cls 2), by show ((x.name q.name true).b ++ putB [] q.type 2) ++ putB [] q.cls 2 = _; rw [hz]; simp only [List.append_assoc]⟩
theorem Wr.qus_ext (x : Wr) (l : List Qu) : ∃ z, (x.qus l).b = x.b ++ z := by
  induction l generalizing x with
  | nil => exact ⟨[], by simp [Wr.qus]⟩
  | cons q l ih =>
    obtain ⟨z, hz⟩ := ih (x.qu q)
    obtain ⟨z2, hz2⟩ := x.qu_ext q
    exact ⟨z2 ++ z, by show ((x.qu q).qus l).b = _; rw [hz, hz2, List.append_assoc]⟩
theorem Wr.rrs_ext (x : Wr) (l : List RR) : (∀ r ∈ l, FineK r) → ∃ z, (x.rrs l).b = x.b ++ z := by
  induction l generalizing x with
  | nil => exact fun _ => ⟨[], by simp [Wr.rrs]⟩
  | cons r l ih =>
    intro h
    obtain ⟨z, hz⟩ := ih (x.rr r) (fun u hu => h u (List.mem_cons_of_mem _ hu))
    obtain ⟨z2, hz2⟩ := x.rr_ext (h r (List.mem_cons_self ..)).2
    exact ⟨z2 ++ z, by show ((x.rr r).rrs l).b = _; rw [hz, hz2, List.append_assoc]⟩
theorem Wr.True.qus {x : Wr} (hx : x.True) (l : List Qu) (h : ∀ q ∈ l, FineQ q) : (x.qus l).True := by
  induction l generalizing x with
  | nil => exact hx
  | cons q l ih => exact ih (hx.qu (h q (List.mem_cons_self ..))) (fun u hu => h u (List.mem_cons_of_mem _ hu))
theorem Wr.True.rrs {x : Wr} (hx : x.True) (l : List RR) (h : ∀ r ∈ l, FineK r) : (x.rrs l).True := by
  induction l generalizing x with
  | nil => exact hx
  | cons q l ih => exact ih (hx.rr (h q (List.mem_cons_self ..)).2) (fun u hu => h u (List.mem_cons_of_mem _ hu))
/-- What was written of a question is read. -/
theorem dQu_back {x : Wr} (hx : x.True) {q : Qu} (h : FineQ q) (y : List UInt8) : dQu ((x.qu q).b ++ y) x.b.length = .ok (q, (x.qu q).b.length) := by
  have ht := hx.name h.1.1 true
  have l1 := putB_len_fit h.2.2.1
  have l2 := putB_len_fit h.2.2.2
  obtain ⟨p, hp⟩ : ∃ p, p = (x.name q.name true).b.length := ⟨_, rfl⟩
  have hB : (x.qu q).b ++ y = (x.name q.name true).b ++ (putB [] q.type 2 ++ putB [] q.cls 2 ++ y) := by
    show ((x.name q.name true).b ++ putB [] q.type 2) ++ putB [] q.cls 2 ++ y = _
    simp only [List.append_assoc]
  have hname : nameA ((x.qu q).b ++ y) (x.b.length : Int) = (q.name, (p : Int), 0) := by
    unfold nameA
    rw [if_neg (by omega), Int.toNat_natCast, hB, (ht.2.ext _).read 0 [] (by simpa using h.1.2), List.nil_append, Nat.zero_max, hp]
  have sg : Seg ((x.qu q).b ++ y) p (putB [] q.type 2 ++ putB [] q.cls 2) := ⟨(x.name q.name true).b, y, by rw [hB]; simp only [List.append_assoc], hp.symm⟩
  have s1 := numA_seg h.2.2.1 sg.left
  have s2 := numA_seg h.2.2.2 sg.right
  rw [l1] at s2
  have s1' : (numA ((x.qu q).b ++ y) p 2 : Int) = q.type := s1
  have s2' : (numA ((x.qu q).b ++ y) (p + 2) 2 : Int) = q.cls := s2
  have hlen : (x.qu q).b.length = p + 4 := by
    have e1 := raw_len (x.name q.name true) (putB [] q.type 2)
    have e2 := raw_len ((x.name q.name true).raw (putB [] q.type 2)) (putB [] q.cls 2)
    have l1' : (putB [] q.type 2).length = 2 := l1
    have l2' : (putB [] q.cls 2).length = 2 := l2
    show (((x.name q.name true).raw (putB [] q.type 2)).raw (putB [] q.cls 2)).b.length = _
    omega
  have h1 := h.2.1
  unfold dQu
  rw [hname]
  simp only [ne_eq, not_true_eq_false, if_false, Int.toNat_natCast]
  rw [if_neg (by rw [List.length_append]; omega), if_neg (by omega), s1', s2', hlen]
theorem dQus_back (l : List Qu) : ∀ {x : Wr}, x.True → (∀ q ∈ l, FineQ q) → ∀ (acc : List Qu) (y : List UInt8), dQus ((x.qus l).b ++ y) l.length x.b.length acc = .ok (acc ++ l, (x.qus l).b.length) := by
  induction l with
  | nil => intro x _ _ acc y; simp [dQus, Wr.qus]
  | cons q l ih =>
    intro x hx h acc y
    have hq := h q (List.mem_cons_self ..)
    obtain ⟨z, hz⟩ := (x.qu q).qus_ext l
    have e : (x.qus (q :: l)).b = (x.qu q).b ++ z := hz
    have h1 := dQu_back hx hq (z ++ y)
    have h2 := ih (hx.qu hq) (fun u hu => h u (List.mem_cons_of_mem _ hu)) (acc ++ [q]) y
    have e2 : (x.qus (q :: l)).b ++ y = ((x.qu q).qus l).b ++ y := rfl
    rw [List.length_cons, dQus]
    rw [show dQu ((x.qus (q :: l)).b ++ y) x.b.length = .ok (q, (x.qu q).b.length) by rw [e, List.append_assoc]; exact h1]
    show dQus ((x.qus (q :: l)).b ++ y) l.length (x.qu q).b.length (acc ++ [q]) = _
    rw [e2, h2]
    simp
    rfl
theorem dRRs_back (e : Bool) (l : List RR) : ∀ {x : Wr}, x.True → (∀ r ∈ l, FineK r) → ∀ (k : Nat) (o : Opt) (acc : List RR) (y : List UInt8), dRRs ((x.rrs l).b ++ y) e (l.length + k) x.b.length o acc = dRRs ((x.rrs l).b ++ y) e k (x.rrs l).b.length o (acc ++ l) := by
  induction l with
  | nil => intro x _ _ k o acc y; simp [Wr.rrs]
  | cons r l ih =>
    intro x hx h k o acc y
    have hr := h r (List.mem_cons_self ..)
    obtain ⟨z, hz⟩ := (x.rr r).rrs_ext l (fun u hu => h u (List.mem_cons_of_mem _ hu))
    have e1 : (x.rrs (r :: l)).b = (x.rr r).b ++ z := hz
    have h1 := getRR_back hx hr.2 (z ++ y)
    have h2 := ih (hx.rr hr.2) (fun u hu => h u (List.mem_cons_of_mem _ hu)) k o (acc ++ [r]) y
    have e2 : (x.rrs (r :: l)).b ++ y = ((x.rr r).rrs l).b ++ y := rfl
    have h3 : getRR ((x.rrs (r :: l)).b ++ y) (x.b.length : Int) = (r, ((x.rr r).b.length : Int), 0) := by rw [e1, List.append_assoc]; exact h1
    rw [List.length_cons, show l.length + 1 + k = (l.length + k) + 1 by omega, dRRs, h3]
    simp only [ne_eq, not_true_eq_false, if_false, Int.toNat_natCast]
    rw [if_neg hr.1, e2, h2]
    simp
    rfl
/-- The OPT record. -/
def optR (m : Ms) : RR := ⟨[], 41, m.size, 0, Da.zero⟩
end Go.Proofs.Ytmkfjddighabcaa

/- A sound message's bytes are read as it is, in plain Lean. -/
namespace Go.Proofs.Ytmkfjddighabcaa
open Go.RowKit
set_option maxRecDepth 100000

theorem optR_fine {m : Ms} (h : FineM m) : FineR (optR m) := by
  refine ⟨⟨by simp [optR], by show sizeN [] ≤ 255; decide⟩, ⟨⟨by show (1:Int) ≤ 41; omega, by show (41:Int) ≤ 65535; omega⟩, ?_⟩, h.size, by show (0:Int) ≤ 0; omega, by show (0:Int) < 2147483648; omega⟩
  show FineS shpB Da.zero
  simp [FineS, shpB, Da.zero, hostP, textsP]
theorem opt_b {m : Ms} (h : FineM m) (x : Wr) (he : m.edns = true) : (x.opt m).b = (x.rr (optR m)).b := by
  have hf := optR_fine h
  have hlt := x.rrLen_lt hf
  have hs : shapeP (optR m).type = shpB := rfl
  have hd : ∀ z : Wr, z.data shpB Da.zero = z.raw [] := by
    intro z
    obtain ⟨bs, e1, e2⟩ := data_B (x := z) (d := Da.zero) (by simp [FineS, shpB, Da.zero, hostP, textsP])
    have e3 : bs = [] := by injection e1 with e1; exact e1.symm
    rw [e2, e3]
  have h0 : x.rrLen (optR m) = 0 := by
    unfold Wr.rrLen
    rw [hs, show (optR m).data = Da.zero from rfl, hd]
    have := raw_len ((x.rrHead (optR m)).raw (putB [] 0 2)) []
    have := raw_len (x.rrHead (optR m)) (putB [] 0 2)
    have := put02_len
    simp only [List.length_nil] at *
    omega
  rw [Wr.rr_eq x _ hlt, h0, hs, show (optR m).data = Da.zero from rfl, hd]
  unfold Wr.opt
  rw [if_pos he]
  show (((x.b ++ [0]) ++ putB [] 41 2) ++ putB [] m.size 2) ++ putB [] 0 6 = ((((((x.name [] true).b) ++ putB [] 41 2) ++ putB [] m.size 2) ++ putB [] 0 4) ++ putB [] 0 2) ++ []
  rw [show putB [] 0 6 = putB [] 0 4 ++ putB [] 0 2 by decide, show (x.name [] true).b = x.b ++ [0] from rfl]
  simp only [List.append_assoc, List.append_nil]
theorem flags_back {m : Ms} (hf : FineM m) {n : Nat} (h : (n : Int) = flagsN m) :
    decide (n / 32768 % 2 = 1) = m.resp ∧ ((n / 2048 % 16 : Nat) : Int) = m.op ∧ decide (n / 1024 % 2 = 1) = m.aa ∧ decide (n / 512 % 2 = 1) = m.tc ∧ decide (n / 256 % 2 = 1) = m.rd ∧ decide (n / 128 % 2 = 1) = m.ra ∧ ((n % 16 : Nat) : Int) = m.rcode := by
  have h0 := hf.op0; have h1 := hf.op; have h2 := hf.rc0; have h3 := hf.rc
  unfold flagsN bitN at h
  clear hf
  generalize m.op = o at *
  generalize m.rcode = r at *
  generalize m.resp = b1 at *
  generalize m.aa = b2 at *
  generalize m.tc = b3 at *
  generalize m.rd = b4 at *
  generalize m.ra = b5 at *
  cases b1 <;> cases b2 <;> cases b3 <;> cases b4 <;> cases b5 <;> simp only [if_true, if_false, Bool.false_eq_true, decide_eq_true_iff, decide_eq_false_iff_not] at h ⊢ <;> (refine ⟨?_, ?_, ?_, ?_, ?_, ?_, ?_⟩ <;> omega)
theorem fitsI {n : Int} (h : 0 ≤ n ∧ n < 65536) : fitsB n 2 = true := by
  obtain ⟨k, rfl⟩ := Int.eq_ofNat_of_zero_le h.1
  exact fits2 (by omega)
theorem head_back {m : Ms} (hf : FineM m) (y : List UInt8) :
    (Wr.nil.nums2 (headN m)).b.length = 12 ∧ (numA ((Wr.nil.nums2 (headN m)).b ++ y) 0 2 : Int) = m.id ∧ (numA ((Wr.nil.nums2 (headN m)).b ++ y) 2 2 : Int) = flagsN m ∧ numA ((Wr.nil.nums2 (headN m)).b ++ y) 4 2 = m.qs.length ∧ numA ((Wr.nil.nums2 (headN m)).b ++ y) 6 2 = m.an.length ∧ numA ((Wr.nil.nums2 (headN m)).b ++ y) 8 2 = m.au.length ∧ (numA ((Wr.nil.nums2 (headN m)).b ++ y) 10 2 : Int) = m.ex.length + bitN m.edns 1 := by
  have ht := hf.tot
  unfold totM at ht
  have f0 := hf.id
  have f1 := fitsI (flagsN_fits hf)
  have f2 : fitsB (m.qs.length : Int) 2 = true := fits2 (by omega)
  have f3 : fitsB (m.an.length : Int) 2 = true := fits2 (by omega)
  have f4 : fitsB (m.au.length : Int) 2 = true := fits2 (by omega)
  have f5 : fitsB ((m.ex.length : Int) + bitN m.edns 1) 2 = true := fitsI (by unfold bitN; split <;> omega)
  obtain ⟨B, hB⟩ : ∃ B, B = (Wr.nil.nums2 (headN m)).b ++ y := ⟨_, rfl⟩
  have hb : (Wr.nil.nums2 (headN m)).b = putB [] m.id 2 ++ (putB [] (flagsN m) 2 ++ (putB [] (m.qs.length : Int) 2 ++ (putB [] (m.an.length : Int) 2 ++ (putB [] (m.au.length : Int) 2 ++ putB [] ((m.ex.length : Int) + bitN m.edns 1) 2)))) := by
    show (((((([] ++ putB [] m.id 2) ++ putB [] (flagsN m) 2) ++ putB [] (m.qs.length : Int) 2) ++ putB [] (m.an.length : Int) 2) ++ putB [] (m.au.length : Int) 2) ++ putB [] ((m.ex.length : Int) + bitN m.edns 1) 2) = _
    simp only [List.nil_append, List.append_assoc]
  have l0 : (putB [] m.id 2).length = 2 := putB_len_fit f0
  have l1 : (putB [] (flagsN m) 2).length = 2 := putB_len_fit f1
  have l2 : (putB [] (m.qs.length : Int) 2).length = 2 := putB_len_fit f2
  have l3 : (putB [] (m.an.length : Int) 2).length = 2 := putB_len_fit f3
  have l4 : (putB [] (m.au.length : Int) 2).length = 2 := putB_len_fit f4
  have l5 : (putB [] ((m.ex.length : Int) + bitN m.edns 1) 2).length = 2 := putB_len_fit f5
  have sg : Seg B 0 (Wr.nil.nums2 (headN m)).b := ⟨[], y, by rw [hB]; rfl, rfl⟩
  have hlen : (Wr.nil.nums2 (headN m)).b.length = 12 := by rw [hb]; simp only [List.length_append]; omega
  rw [← hB]
  rw [hb] at sg
  have s0 := sg.left
  have g1 := sg.right
  rw [l0] at g1
  have s1 := g1.left
  have g2 := g1.right
  rw [l1] at g2
  have s2 := g2.left
  have g3 := g2.right
  rw [l2] at g3
  have s3 := g3.left
  have g4 := g3.right
  rw [l3] at g4
  have s4 := g4.left
  have s5 := g4.right
  rw [l4] at s5
  have n0 : (numA B 0 2 : Int) = _ := numA_seg f0 s0
  have n1 : (numA B 2 2 : Int) = _ := numA_seg f1 s1
  have n2 : (numA B 4 2 : Int) = _ := numA_seg f2 s2
  have n3 : (numA B 6 2 : Int) = _ := numA_seg f3 s3
  have n4 : (numA B 8 2 : Int) = _ := numA_seg f4 s4
  have n5 : (numA B 10 2 : Int) = _ := numA_seg f5 s5
  exact ⟨hlen, n0, n1, by omega, by omega, by omega, n5⟩
theorem Wr.True.nums2 {x : Wr} (hx : x.True) (l : List Int) : (x.nums2 l).True := by
  induction l generalizing x with
  | nil => exact hx
  | cons n l ih => exact ih (hx.raw _)
theorem Wr.nil_true : Wr.nil.True := by
  intro r p hr
  have e : lookR Wr.nil.rests r = none := rfl
  rw [e] at hr
  cases hr
/-- What was written is read. -/
theorem decode_back {m : Ms} (hf : FineM m) (hl : (msW m).b.length ≤ 65535) : decP (msW m).b = .ok m := by
  have ht := hf.tot
  unfold totM at ht
  obtain ⟨x0, e0⟩ : ∃ x, x = Wr.nil.nums2 (headN m) := ⟨_, rfl⟩
  obtain ⟨x1, e1⟩ : ∃ x, x = x0.qus m.qs := ⟨_, rfl⟩
  obtain ⟨x2, e2⟩ : ∃ x, x = x1.rrs m.an := ⟨_, rfl⟩
  obtain ⟨x3, e3⟩ : ∃ x, x = x2.rrs m.au := ⟨_, rfl⟩
  obtain ⟨x4, e4⟩ : ∃ x, x = x3.rrs m.ex := ⟨_, rfl⟩
  have hw : msW m = x4.opt m := by rw [e4, e3, e2, e1, e0]; rfl
  have t0 : x0.True := by rw [e0]; exact Wr.nil_true.nums2 _
  have t1 : x1.True := by rw [e1]; exact t0.qus _ hf.qs
  have t2 : x2.True := by rw [e2]; exact t1.rrs _ hf.an
  have t3 : x3.True := by rw [e3]; exact t2.rrs _ hf.au
  have t4 : x4.True := by rw [e4]; exact t3.rrs _ hf.ex
  obtain ⟨z5, h5⟩ : ∃ z, (msW m).b = x4.b ++ z := by
    rw [hw]
    cases he : m.edns with
    | false => exact ⟨[], by unfold Wr.opt; rw [he]; simp⟩
    | true => rw [opt_b hf x4 he]; exact x4.rr_ext (optR_fine hf)
  obtain ⟨z4, h4⟩ := x3.rrs_ext m.ex hf.ex
  obtain ⟨z3, h3⟩ := x2.rrs_ext m.au hf.au
  obtain ⟨z2, h2⟩ := x1.rrs_ext m.an hf.an
  obtain ⟨z1, h1⟩ := x0.qus_ext m.qs
  rw [← e4] at h4
  rw [← e3] at h3
  rw [← e2] at h2
  rw [← e1] at h1
  obtain ⟨B, hB⟩ : ∃ B, B = (msW m).b := ⟨_, rfl⟩
  rw [← hB] at hl h5 ⊢
  have b3 : B = x3.b ++ (z4 ++ z5) := by rw [h5, h4, List.append_assoc]
  have b2 : B = x2.b ++ (z3 ++ (z4 ++ z5)) := by rw [b3, h3, List.append_assoc]
  have b1 : B = x1.b ++ (z2 ++ (z3 ++ (z4 ++ z5))) := by rw [b2, h2, List.append_assoc]
  have b0 : B = x0.b ++ (z1 ++ (z2 ++ (z3 ++ (z4 ++ z5)))) := by rw [b1, h1, List.append_assoc]
  obtain ⟨hlen, n0, n1, n2, n3, n4, n5⟩ := head_back hf (z1 ++ (z2 ++ (z3 ++ (z4 ++ z5))))
  rw [← e0, ← b0] at n0 n1 n2 n3 n4 n5
  rw [← e0] at hlen
  obtain ⟨f1, f2, f3, f4, f5, f6, f7⟩ := flags_back hf n1
  have hbl : 12 ≤ B.length := by rw [b0, List.length_append]; omega
  have d1 : dQus B m.qs.length 12 [] = .ok (m.qs, x1.b.length) := by
    have := dQus_back m.qs t0 hf.qs [] (z2 ++ (z3 ++ (z4 ++ z5)))
    rw [← e1, ← b1, hlen] at this
    exact this
  have d2 : ∀ o, dRRs B false m.an.length x1.b.length o [] = .ok (m.an, x2.b.length, o) := by
    intro o
    have := dRRs_back false m.an t1 hf.an 0 o [] (z3 ++ (z4 ++ z5))
    rw [← e2, ← b2] at this
    exact this
  have d3 : ∀ o, dRRs B false m.au.length x2.b.length o [] = .ok (m.au, x3.b.length, o) := by
    intro o
    have := dRRs_back false m.au t2 hf.au 0 o [] (z4 ++ z5)
    rw [← e3, ← b3] at this
    exact this
  have d4 : dRRs B true (numA B 10 2) x3.b.length ⟨false, 0⟩ [] = .ok (m.ex, B.length, ⟨m.edns, m.size⟩) := by
    cases he : m.edns with
    | false =>
      rw [he] at n5
      have k : numA B 10 2 = m.ex.length + 0 := by unfold bitN at n5; simp at n5; omega
      have := dRRs_back true m.ex t3 hf.ex 0 ⟨false, 0⟩ [] z5
      rw [← e4, ← h5] at this
      rw [k, this]
      have hz : m.size = 0 := by rcases hf.edns with h | h; (rw [he] at h; cases h); exact h
      have hx : B.length = x4.b.length := by rw [hB, hw]; unfold Wr.opt; rw [he]; simp
      rw [hz, hx]; rfl
    | true =>
      rw [he] at n5
      have k : numA B 10 2 = m.ex.length + 1 := by unfold bitN at n5; simp at n5; omega
      have := dRRs_back true m.ex t3 hf.ex 1 ⟨false, 0⟩ [] z5
      rw [← e4, ← h5] at this
      rw [k, this]
      have hx : B = (x4.rr (optR m)).b := by rw [hB, hw, opt_b hf x4 he]
      have hg := getRR_back t4 (optR_fine hf) []
      rw [List.append_nil, ← hx] at hg
      rw [dRRs, hg]
      simp [optR, dRRs]
  unfold decP
  rw [if_neg (by omega), if_neg (by omega), if_neg (by have : bitN m.edns 1 ≤ 1 := by { unfold bitN; split <;> omega }; omega), n2, d1]
  simp only []
  rw [n3, d2]
  simp only []
  rw [n4, d3]
  simp only []
  rw [d4]
  simp only [Nat.lt_irrefl, if_false]
  unfold msF bitA
  rw [f1, f2, f3, f4, f5, f6, f7, n0]
end Go.Proofs.Ytmkfjddighabcaa

/- What is read is sound, in plain Lean: names, questions. -/
namespace Go.Proofs.Ytmkfjddighabcaa
open Go.RowKit
set_option maxRecDepth 100000

theorem getP_sound (b : List UInt8) (a g n : Nat) (ls : List (List UInt8)) (hs : SoundN ls) : SoundN (getP b a g n ls).1 := by
  have hz : SoundN [] := ⟨by simp, by show sizeN [] ≤ 255; decide⟩
  fun_induction getP b a g n ls with
  | case1 => exact hz
  | case2 => exact hs
  | case3 => exact hz
  | case4 at_ beg nx ls c hc h0 h1 d hd hb ih => exact ih hs
  | case5 => exact hz
  | case6 => exact hz
  | case7 => exact hz
  | case8 => exact hz
  | case9 at_ beg nx ls c hc h0 h1 h2 h3 h4 ih =>
    refine ih ⟨fun l hl => ?_, ?_⟩
    · rcases List.mem_append.1 hl with h | h
      · exact hs.1 l h
      · rw [List.mem_singleton.1 h, List.length_take, List.length_drop]
        omega
    · rw [sizeN_snoc, List.length_take, List.length_drop]
      omega
theorem nameA_sound (b : List UInt8) (a : Int) : SoundN (nameA b a).1 := by
  have hz : SoundN [] := ⟨by simp, by show sizeN [] ≤ 255; decide⟩
  unfold nameA
  split
  · exact hz
  · exact getP_sound _ _ _ _ _ hz
theorem dQu_sound {b : List UInt8} {p p' : Nat} {q : Qu} (h : dQu b p = .ok (q, p')) : FineQ q := by
  unfold dQu at h
  split at h
  · cases h
  split at h
  · cases h
  split at h
  · cases h
  rename_i h1
  injection h with h
  injection h with h h'
  subst h
  exact ⟨nameA_sound _ _, by show (1:Int) ≤ (numA _ _ 2 : Int); omega, fits2 numA_2, fits2 numA_2⟩
theorem dQus_sound {b : List UInt8} (k : Nat) : ∀ {p p' : Nat} {acc l : List Qu}, (∀ q ∈ acc, FineQ q) → dQus b k p acc = .ok (l, p') → (∀ q ∈ l, FineQ q) ∧ l.length = acc.length + k := by
  induction k with
  | zero =>
    intro p p' acc l ha h
    rw [dQus] at h
    injection h with h
    injection h with h h'
    subst h
    exact ⟨ha, rfl⟩
  | succ k ih =>
    intro p p' acc l ha h
    rw [dQus] at h
    cases hq : dQu b p with
    | error e => rw [hq] at h; cases h
    | ok qp =>
      obtain ⟨q, p1⟩ := qp
      rw [hq] at h
      obtain ⟨h1, h2⟩ := ih (acc := acc ++ [q]) (by
        intro u hu
        rcases List.mem_append.1 hu with hu | hu
        · exact ha u hu
        · rw [List.mem_singleton.1 hu]; exact dQu_sound hq) h
      refine ⟨h1, ?_⟩
      rw [h2, List.length_append, List.length_singleton]
      omega
end Go.Proofs.Ytmkfjddighabcaa

/- What is read is sound, in plain Lean: data, records. -/
namespace Go.Proofs.Ytmkfjddighabcaa
open Go.RowKit
set_option maxRecDepth 100000

theorem nameX_sound {b : List UInt8} {pos en q : Nat} {n : List (List UInt8)} (h : nameX b pos en = .ok (n, q)) : SoundN n := by
  have hz : SoundN [] := ⟨by simp, by show sizeN [] ≤ 255; decide⟩
  unfold nameX at h
  split at h
  · split at h
    · cases h
    · injection h with h
      injection h with h1 h2
      rw [← h1]
      exact getP_sound _ _ _ _ _ hz
  · cases h
theorem bytesR_len2 {b l : List UInt8} {pos en n q : Nat} (hb : en ≤ b.length) (h : bytesR b pos en n = .ok (l, q)) : l.length = n := by
  unfold bytesR at h
  split at h
  · cases h
  · injection h with h
    injection h with h1 h2
    rw [← h1, List.length_take, List.length_drop]
    omega
theorem numsR_sound {b : List UInt8} {en size : Nat} (h1 : 1 ≤ size) (h7 : size ≤ 7) {l : List Int} {q : Nat} : ∀ {k pos : Nat} {acc : List Int}, (∀ n ∈ acc, fitsB n (size : Int) = true) → numsR b en size k pos acc = .ok (l, q) → (∀ n ∈ l, fitsB n (size : Int) = true) ∧ l.length = acc.length + k
  | 0, pos, acc, ha, h => by
    injection h with h
    injection h with e1 e2
    subst e1
    exact ⟨ha, rfl⟩
  | k + 1, pos, acc, ha, h => by
    rw [numsR] at h
    cases hn : numR b pos en size with
    | error e => rw [hn] at h; cases h
    | ok r =>
      obtain ⟨n, p⟩ := r
      rw [hn] at h
      have hn2 : n < 256 ^ size := by
        unfold numR at hn
        split at hn
        · cases hn
        · injection hn with hn
          injection hn with e1 e2
          rw [← e1]
          exact numA_lt
      obtain ⟨g1, g2⟩ := numsR_sound h1 h7 (k := k) (acc := acc ++ [(n : Int)]) (by
        intro u hu
        rcases List.mem_append.1 hu with hu | hu
        · exact ha u hu
        · rw [List.mem_singleton.1 hu]
          unfold fitsB
          rw [decide_eq_true_iff, Int.toNat_natCast]
          exact ⟨by omega, by omega, by omega, by exact_mod_cast hn2⟩) h
      refine ⟨g1, ?_⟩
      rw [g2, List.length_append, List.length_singleton]
      omega
theorem textsR_sound {b : List UInt8} {en : Nat} (hb : en ≤ b.length) {l : List (List UInt8)} {q : Nat} : ∀ {k pos : Nat} {acc : List (List UInt8)}, (∀ t ∈ acc, t.length ≤ 255) → textsR b en k pos acc = .ok (l, q) → (∀ t ∈ l, t.length ≤ 255) ∧ 1 ≤ l.length ∧ l.length ≤ acc.length + k
  | 0, pos, acc, ha, h => by
    rw [textsR] at h
    split at h
    · cases h
    · split at h
      · cases h
      · injection h with h
        injection h with e1 e2
        subst e1
        exact ⟨ha, by omega, by omega⟩
  | k + 1, pos, acc, ha, h => by
    rw [textsR] at h
    split at h
    · cases hn : numR b pos en 1 with
      | error e => rw [hn] at h; cases h
      | ok r =>
        obtain ⟨n, p⟩ := r
        rw [hn] at h
        simp only at h
        have hn2 : n < 256 ^ 1 := by
          unfold numR at hn
          split at hn
          · cases hn
          · injection hn with hn
            injection hn with e1 e2
            rw [← e1]
            exact numA_lt
        cases hq : bytesR b p en n with
        | error e => rw [hq] at h; cases h
        | ok r2 =>
          obtain ⟨t, p2⟩ := r2
          rw [hq] at h
          have hl := bytesR_len2 hb hq
          obtain ⟨g1, g2, g3⟩ := textsR_sound hb (k := k) (acc := acc ++ [t]) (by
            intro u hu
            rcases List.mem_append.1 hu with hu | hu
            · exact ha u hu
            · rw [List.mem_singleton.1 hu, hl]; omega) h
          refine ⟨g1, g2, ?_⟩
          rw [List.length_append, List.length_singleton] at g3
          omega
    · split at h
      · cases h
      · injection h with h
        injection h with e1 e2
        subst e1
        exact ⟨ha, by omega, by omega⟩
theorem dataR_sound {b : List UInt8} {pos en q : Nat} {k : Int} {d : Da} (hb : en ≤ b.length) (hs : en ≤ pos + 65535) (h : dataR b pos en (shapeP k) = .ok (d, q)) : FineS (shapeP k) d := by
  rcases shape_cases k with e | e | e | e | e | e | e | e <;> rw [e] at h ⊢ <;> simp [dataR, shpA, shpQ, shpN, shpM, shpS, shpV3, shpT, shpB] at h
  · cases hx : bytesR b pos en 4 with
    | error e => rw [hx] at h; cases h
    | ok r =>
      obtain ⟨x, p⟩ := r
      rw [hx] at h
      have hl := bytesR_len2 hb hx
      injection h with h; injection h with h h'; subst h
      simp [FineS, shpA, Da.zero, hostP, textsP, hl]
  · cases hx : bytesR b pos en 16 with
    | error e => rw [hx] at h; cases h
    | ok r =>
      obtain ⟨x, p⟩ := r
      rw [hx] at h
      have hl := bytesR_len2 hb hx
      injection h with h; injection h with h h'; subst h
      simp [FineS, shpQ, Da.zero, hostP, textsP, hl]
  · cases hx : nameX b pos en with
    | error e => rw [hx] at h; cases h
    | ok r =>
      obtain ⟨x, p⟩ := r
      rw [hx] at h
      have hl := nameX_sound hx
      injection h with h; injection h with h h'; subst h
      simp [FineS, shpN, Da.zero, hostP, textsP, hl]
  · cases hx : numsR b en 2 1 pos [] with
    | error e => rw [hx] at h; cases h
    | ok r =>
      obtain ⟨x, p⟩ := r
      rw [hx] at h
      simp only at h
      obtain ⟨g1, g2⟩ := numsR_sound (by omega) (by omega) (by simp) hx
      cases hy : nameX b p en with
      | error e => rw [hy] at h; cases h
      | ok r =>
        obtain ⟨y, p2⟩ := r
        rw [hy] at h
        have hl := nameX_sound hy
        injection h with h; injection h with h h'; subst h
        simp [FineS, shpM, Da.zero, hostP, textsP, hl]
        exact ⟨by simp only [List.length_nil] at g2; omega, fun n hn => g1 n hn⟩
  · cases hx : nameX b pos en with
    | error e => rw [hx] at h; cases h
    | ok r =>
      obtain ⟨x, p⟩ := r
      rw [hx] at h
      simp only at h
      have hl := nameX_sound hx
      cases hy : nameX b p en with
      | error e => rw [hy] at h; cases h
      | ok r =>
        obtain ⟨y, p2⟩ := r
        rw [hy] at h
        simp only at h
        have hl2 := nameX_sound hy
        cases hz : numsR b en 4 5 p2 [] with
        | error e => rw [hz] at h; cases h
        | ok r =>
          obtain ⟨z, p3⟩ := r
          rw [hz] at h
          obtain ⟨g1, g2⟩ := numsR_sound (by omega) (by omega) (by simp) hz
          injection h with h; injection h with h h'; subst h
          simp [FineS, shpS, Da.zero, hostP, textsP, hl, hl2]
          exact ⟨by simp only [List.length_nil] at g2; omega, fun n hn => g1 n hn⟩
  · cases hx : numsR b en 2 3 pos [] with
    | error e => rw [hx] at h; cases h
    | ok r =>
      obtain ⟨x, p⟩ := r
      rw [hx] at h
      simp only at h
      obtain ⟨g1, g2⟩ := numsR_sound (by omega) (by omega) (by simp) hx
      cases hy : nameX b p en with
      | error e => rw [hy] at h; cases h
      | ok r =>
        obtain ⟨y, p2⟩ := r
        rw [hy] at h
        have hl := nameX_sound hy
        injection h with h; injection h with h h'; subst h
        simp [FineS, shpV3, Da.zero, hostP, textsP, hl]
        exact ⟨by simp only [List.length_nil] at g2; omega, fun n hn => g1 n hn⟩
  · cases hx : textsR b en 64 pos [] with
    | error e => rw [hx] at h; cases h
    | ok r =>
      obtain ⟨x, p⟩ := r
      rw [hx] at h
      obtain ⟨g1, g2, g3⟩ := textsR_sound hb (by simp) hx
      injection h with h; injection h with h h'; subst h
      simp [FineS, shpT, Da.zero, hostP, textsP]
      exact ⟨g2, by simpa using g3, g1⟩
  · cases hx : bytesR b pos en (en - pos) with
    | error e => rw [hx] at h; cases h
    | ok r =>
      obtain ⟨x, p⟩ := r
      rw [hx] at h
      have hl := bytesR_len2 hb hx
      injection h with h; injection h with h h'; subst h
      simp [FineS, shpB, Da.zero, hostP, textsP]
      omega
end Go.Proofs.Ytmkfjddighabcaa

/- What is read is sound, in plain Lean: records, messages. -/
namespace Go.Proofs.Ytmkfjddighabcaa
open Go.RowKit
set_option maxRecDepth 100000

theorem nameX_nz {b : List UInt8} {pos en : Nat} {e : Int} (h : nameX b pos en = .error e) : e ≠ 0 := by
  unfold nameX at h
  split at h
  · split at h
    · injection h with h; omega
    · cases h
  · injection h with h; rw [← h]; assumption
theorem numsR_nz {b : List UInt8} {en size : Nat} {e : Int} : ∀ {k pos : Nat} {acc : List Int}, numsR b en size k pos acc = .error e → e ≠ 0
  | 0, pos, acc, h => by cases h
  | k + 1, pos, acc, h => by
    rw [numsR] at h
    cases hn : numR b pos en size with
    | error e2 => rw [hn] at h; injection h with h; have := numR_err hn; omega
    | ok r =>
      obtain ⟨n, p⟩ := r
      rw [hn] at h
      exact numsR_nz h
theorem textsR_nz {b : List UInt8} {en : Nat} {e : Int} : ∀ {k pos : Nat} {acc : List (List UInt8)}, textsR b en k pos acc = .error e → e ≠ 0
  | 0, pos, acc, h => by
    rw [textsR] at h
    split at h
    · injection h with h; omega
    · split at h
      · injection h with h; omega
      · cases h
  | k + 1, pos, acc, h => by
    rw [textsR] at h
    split at h
    · cases hn : numR b pos en 1 with
      | error e2 => rw [hn] at h; injection h with h; have := numR_err hn; omega
      | ok r =>
        obtain ⟨n, p⟩ := r
        rw [hn] at h
        simp only at h
        cases hb : bytesR b p en n with
        | error e2 => rw [hb] at h; injection h with h; have := bytesR_err hb; omega
        | ok r2 =>
          obtain ⟨t, p2⟩ := r2
          rw [hb] at h
          exact textsR_nz h
    · split at h
      · injection h with h; omega
      · cases h
theorem dataR_nz {b : List UInt8} {pos en : Nat} {s : Shp} {e : Int} (h : dataR b pos en s = .error e) : e ≠ 0 := by
  unfold dataR at h
  repeat' split at h
  all_goals first
    | (cases h; done)
    | (rename_i hx; injection h with h; subst h; first | exact textsR_nz hx | exact numsR_nz hx | exact nameX_nz hx | (have := bytesR_err hx; omega))
theorem getD_sound {b : List UInt8} {at_ size k : Int} (hs : size ≤ 65535) (h : (getD b at_ size k).2 = 0) : FineD k (getD b at_ size k).1 := by
  unfold getD at h ⊢
  split
  · rename_i h1; rw [if_pos h1] at h; cases h
  · rename_i h1
    rw [if_neg h1] at h
    split
    · rename_i h2; rw [if_pos h2] at h; cases h
    · rename_i h2
      rw [if_neg h2] at h
      cases hd : dataR b at_.toNat (at_.toNat + size.toNat) (shapeP k) with
      | error e =>
        exfalso
        rw [hd] at h
        simp only at h
        subst h
        exact dataR_nz hd rfl
      | ok r =>
        obtain ⟨d, q⟩ := r
        rw [hd] at h
        simp only at h ⊢
        split
        · rename_i h3; rw [if_pos h3] at h; cases h
        · exact ⟨⟨by omega, by omega⟩, dataR_sound (by omega) (by omega) hd⟩
theorem getRR_fine {b : List UInt8} {a : Int} (h : (getRR b a).2.2 = 0) : FineR (getRR b a).1 := by
  unfold getRR at h ⊢
  split
  · rename_i h1; rw [if_pos h1] at h; exact absurd h h1
  · rename_i h1
    rw [if_neg h1] at h
    unfold getRR1 at h ⊢
    split
    · rename_i h2; rw [if_pos h2] at h; cases h
    · rename_i h2
      rw [if_neg h2] at h
      split
      · rename_i h3; rw [if_pos h3] at h; cases h
      · rename_i h3
        rw [if_neg h3] at h
        split
        · rename_i h4; rw [if_pos h4] at h; exact absurd h h4
        · rename_i h4
          refine ⟨nameA_sound _ _, getD_sound (by have := @numA_2 b ((nameA b a).2.1.toNat + 8); omega) (by simpa using h4), fits2 numA_2, ?_, ?_⟩
          · show 0 ≤ ttlA _ _
            unfold ttlA
            split <;> omega
          · show ttlA _ _ < 2147483648
            unfold ttlA
            split <;> omega
theorem dRRs_sound {b : List UInt8} {e : Bool} (k : Nat) : ∀ {p p' : Nat} {o o' : Opt} {acc l : List RR}, (∀ r ∈ acc, FineK r) → (fitsB o.size 2 = true ∧ (o.edns = true ∨ o.size = 0)) → dRRs b e k p o acc = .ok (l, p', o') → (∀ r ∈ l, FineK r) ∧ (fitsB o'.size 2 = true ∧ (o'.edns = true ∨ o'.size = 0)) := by
  induction k with
  | zero =>
    intro p p' o o' acc l ha ho h
    rw [dRRs] at h
    injection h with h
    injection h with h h'
    injection h' with h' h''
    subst h
    subst h''
    exact ⟨ha, ho⟩
  | succ k ih =>
    intro p p' o o' acc l ha ho h
    rw [dRRs] at h
    split at h
    · cases h
    rename_i h1
    have hf := getRR_fine (b := b) (a := (p : Int)) (by simpa using h1)
    split at h
    · split at h
      · cases h
      · exact ih ha ⟨hf.2.2.1, .inl rfl⟩ h
    · rename_i h2
      refine ih (acc := acc ++ [(getRR b p).1]) ?_ ho h
      intro u hu
      rcases List.mem_append.1 hu with hu | hu
      · exact ha u hu
      · rw [List.mem_singleton.1 hu]; exact ⟨h2, hf⟩
/-- What bytes are may be, if it is not too much. -/
theorem decP_fine {b : List UInt8} {m : Ms} (h : decP b = .ok m) (ht : totM m ≤ 512) : FineM m := by
  unfold decP at h
  split at h
  · cases h
  split at h
  · cases h
  split at h
  · cases h
  split at h
  · cases h
  rename_i qs p1 hq
  split at h
  · cases h
  rename_i an p2 o2 hn
  split at h
  · cases h
  rename_i au p3 o3 hu
  split at h
  · cases h
  rename_i ex p4 o4 hx
  split at h
  · cases h
  injection h with h
  subst h
  have g1 := (dQus_sound _ (by simp) hq).1
  obtain ⟨g2, k2⟩ := dRRs_sound _ (by simp) ⟨by decide, .inr rfl⟩ hn
  obtain ⟨g3, k3⟩ := dRRs_sound _ (by simp) k2 hu
  obtain ⟨g4, k4⟩ := dRRs_sound _ (by simp) k3 hx
  have hz := @numA_2 b 2
  exact ⟨ht, fits2 numA_2, by show (0:Int) ≤ (_ : Nat); omega, by show ((numA b 2 2 / 2048 % 16 : Nat) : Int) < 16; omega, by show (0:Int) ≤ (_ : Nat); omega, by show ((numA b 2 2 % 16 : Nat) : Int) < 16; omega, k4.1, k4.2, g1, g2, g3, g4⟩
end Go.Proofs.Ytmkfjddighabcaa

/- What is read has no more bytes than there are, in plain Lean. -/
namespace Go.Proofs.Ytmkfjddighabcaa
open Go.RowKit
set_option maxRecDepth 100000

theorem getP_ge (b : List UInt8) (a g n : Nat) (ls : List (List UInt8)) (p : Nat) (hp : p ≤ a ∨ p ≤ n) (h : (getP b a g n ls).2.2 = 0) : (p : Int) ≤ (getP b a g n ls).2.1 := by
  fun_induction getP b a g n ls with
  | case1 => simp at h
  | case2 => simp only; omega
  | case3 => simp at h
  | case4 at_ beg nx ls c hc h0 h1 d hd hb ih => exact ih (.inr (by omega)) h
  | case5 => simp at h
  | case6 => simp at h
  | case7 => simp at h
  | case8 => simp at h
  | case9 at_ beg nx ls c hc h0 h1 h2 h3 h4 ih => exact ih (by omega) h
theorem dataR_bytes {b : List UInt8} {pos en q : Nat} {s : Shp} {d : Da} (h : dataR b pos en s = .ok (d, q)) : d.bytes.length ≤ en - pos := by
  have hb : ∀ {l : List UInt8} {n r : Nat}, bytesR b pos en n = .ok (l, r) → l.length ≤ en - pos := by
    intro l n r h
    have h2 := bytesR_le h
    unfold bytesR at h
    split at h
    · cases h
    · injection h with h
      injection h with h1 h3
      rw [← h1, List.length_take]
      omega
  unfold dataR at h
  repeat' split at h
  all_goals first
    | (cases h; done)
    | (injection h with h; injection h with h h'; subst h; first | exact hb (by assumption) | exact Nat.zero_le _)
theorem getD_bytes {b : List UInt8} {a z k : Int} (ha : 0 ≤ a) (h : (getD b a z k).2 = 0) : (getD b a z k).1.bytes.length ≤ z.toNat ∧ a.toNat + z.toNat ≤ b.length := by
  obtain ⟨D, hD⟩ : ∃ D, getD b a z k = D := ⟨_, rfl⟩
  rw [hD] at h ⊢
  unfold getD at hD
  split at hD
  · rw [← hD] at h; cases h
  split at hD
  · rw [← hD] at h; cases h
  split at hD
  · rename_i hx; rw [← hD] at h; exact absurd h (dataR_nz hx)
  · rename_i hx
    have := dataR_bytes hx
    split at hD
    · rw [← hD] at h; cases h
    · rw [← hD]
      dsimp only
      constructor <;> omega
theorem getRR_next {b : List UInt8} {p : Nat} (h : (getRR b p).2.2 = 0) : p + (getRR b p).1.data.bytes.length ≤ (getRR b p).2.1.toNat ∧ (getRR b p).2.1.toNat ≤ b.length := by
  unfold getRR at h ⊢
  split
  · rename_i h1; rw [if_pos h1] at h; exact absurd h h1
  · rename_i h1
    rw [if_neg h1] at h
    have hn : (p : Int) ≤ (nameA b p).2.1 := by
      have h1' : (nameA b p).2.2 = 0 := by simpa using h1
      unfold nameA at h1' ⊢
      rw [if_neg (by omega)] at h1' ⊢
      exact getP_ge _ _ _ _ _ p (.inl (by omega)) h1'
    unfold getRR1 at h ⊢
    split
    · rename_i h2; rw [if_pos h2] at h; cases h
    · rename_i h2
      rw [if_neg h2] at h
      split
      · rename_i h3; rw [if_pos h3] at h; cases h
      · rename_i h3
        rw [if_neg h3] at h
        split
        · rename_i h4; rw [if_pos h4] at h; exact absurd h h4
        · rename_i h4
          obtain ⟨P, hP⟩ : ∃ P, P = (nameA b p).2.1.toNat := ⟨_, rfl⟩
          rw [← hP] at h4 ⊢
          have h5 := getD_bytes (Int.natCast_nonneg _) (Decidable.not_not.1 h4)
          rw [Int.toNat_natCast, Int.toNat_natCast] at h5
          show p + (getD b _ _ _).1.bytes.length ≤ (Int.toNat _) ∧ (Int.toNat _) ≤ b.length
          rw [Int.toNat_natCast]
          constructor <;> omega
theorem bytesL_snoc (l : List RR) (r : RR) : bytesL (l ++ [r]) = bytesL l + r.data.bytes.length := by
  unfold bytesL; simp
theorem dRRs_bytes {b : List UInt8} {e : Bool} (k : Nat) : ∀ {p p' : Nat} {o o' : Opt} {acc l : List RR}, p ≤ b.length → dRRs b e k p o acc = .ok (l, p', o') → bytesL l + p ≤ bytesL acc + p' ∧ p' ≤ b.length := by
  induction k with
  | zero =>
    intro p p' o o' acc l hp h
    rw [dRRs] at h
    injection h with h
    injection h with h h'
    injection h' with h' h''
    subst h
    subst h'
    exact ⟨Nat.le_refl _, hp⟩
  | succ k ih =>
    intro p p' o o' acc l hp h
    rw [dRRs] at h
    split at h
    · cases h
    rename_i h1
    obtain ⟨n1, n2⟩ := getRR_next (b := b) (p := p) (by simpa using h1)
    split at h
    · split at h
      · cases h
      · have := ih n2 h
        constructor <;> omega
    · have := ih n2 h
      rw [bytesL_snoc] at this
      constructor <;> omega
theorem dQu_next {b : List UInt8} {p p' : Nat} {q : Qu} (h : dQu b p = .ok (q, p')) : p' ≤ b.length := by
  unfold dQu at h
  split at h
  · cases h
  split at h
  · cases h
  split at h
  · cases h
  injection h with h
  injection h with h h'
  omega
theorem dQus_next {b : List UInt8} (k : Nat) : ∀ {p p' : Nat} {acc l : List Qu}, p ≤ b.length → dQus b k p acc = .ok (l, p') → p' ≤ b.length := by
  induction k with
  | zero =>
    intro p p' acc l hp h
    rw [dQus] at h
    injection h with h
    injection h with h h'
    omega
  | succ k ih =>
    intro p p' acc l hp h
    rw [dQus] at h
    cases hq : dQu b p with
    | error e => rw [hq] at h; cases h
    | ok qp =>
      obtain ⟨q, p1⟩ := qp
      rw [hq] at h
      exact ih (dQu_next hq) h
theorem decP_bytes {b : List UInt8} {m : Ms} (h : decP b = .ok m) : bytesM m ≤ 65535 := by
  unfold decP at h
  split at h
  · cases h
  rename_i hl
  split at h
  · cases h
  rename_i hl2
  split at h
  · cases h
  split at h
  · cases h
  rename_i qs p1 hq
  split at h
  · cases h
  rename_i an p2 o2 hn
  split at h
  · cases h
  rename_i au p3 o3 hu
  split at h
  · cases h
  rename_i ex p4 o4 hx
  split at h
  · cases h
  injection h with h
  subst h
  have g1 := dQus_next _ (by omega) hq
  have g2 := dRRs_bytes _ g1 hn
  have g3 := dRRs_bytes _ g2.2 hu
  have g4 := dRRs_bytes _ g3.2 hx
  have hz : bytesL [] = 0 := rfl
  show bytesL an + bytesL au + bytesL ex ≤ 65535
  omega
end Go.Proofs.Ytmkfjddighabcaa

/- msg.Decode, in plain Lean: what is read of bytes is read of them with more behind as well; so a message's beginning is none. No program in it. -/
namespace Go.Proofs.Ytmkfjddighabcaa
open Go.RowKit
set_option maxRecDepth 100000

theorem drop_take_ext {b z : List UInt8} {p k : Nat} (h : p + k ≤ b.length) : ((b ++ z).drop p).take k = (b.drop p).take k := by
  rw [List.drop_append_of_le_length (by omega), List.take_append_of_le_length (by rw [List.length_drop]; omega)]
theorem numA_ext {b z : List UInt8} {p k : Nat} (h : p + k ≤ b.length) : numA (b ++ z) p k = numA b p k := by unfold numA; rw [drop_take_ext h]
theorem atl_ext {b z : List UInt8} {p : Nat} {c : UInt8} (h : b[p]? = some c) : (b ++ z)[p]? = some c := by
  rw [List.getElem?_append_left (List.getElem?_eq_some_iff.1 h).1]; exact h
theorem getP_ext {b : List UInt8} (z : List UInt8) (a g n : Nat) (ls : List (List UInt8)) (h : (getP b a g n ls).2.2 = 0) : getP (b ++ z) a g n ls = getP b a g n ls := by
  fun_induction getP b a g n ls with
  | case1 => simp at h
  | case2 at_ beg nx ls c hc h0 => exact getP_end (atl_ext hc) h0
  | case3 => simp at h
  | case4 at_ beg nx ls c hc h0 h1 d hd hb ih => rw [getP_ptr (atl_ext hc) h1 (atl_ext hd) hb]; exact ih h
  | case5 => simp at h
  | case6 => simp at h
  | case7 => simp at h
  | case8 => simp at h
  | case9 at_ beg nx ls c hc h0 h1 h2 h3 h4 ih =>
    rw [getP_label (atl_ext hc) h0 (by omega) (by rw [List.length_append]; omega) (by omega), drop_take_ext (by omega)]
    exact ih h
theorem numR_ext {b z : List UInt8} {pos en size : Nat} (he : en ≤ b.length) : numR (b ++ z) pos en size = numR b pos en size := by
  unfold numR
  by_cases h : en < pos + size
  · rw [if_pos h, if_pos h]
  · rw [if_neg h, if_neg h, drop_take_ext (by omega)]
theorem bytesR_ext {b z : List UInt8} {pos en n : Nat} (he : en ≤ b.length) : bytesR (b ++ z) pos en n = bytesR b pos en n := by
  unfold bytesR
  by_cases h : en < pos + n
  · rw [if_pos h, if_pos h]
  · rw [if_neg h, if_neg h, drop_take_ext (by omega)]
theorem nameX_ext {b z : List UInt8} {pos en : Nat} {r : List (List UInt8) × Nat} (h : nameX b pos en = .ok r) : nameX (b ++ z) pos en = .ok r := by
  by_cases h0 : (getP b pos pos 0 []).2.2 = 0
  · unfold nameX at h ⊢
    rw [getP_ext z _ _ _ _ h0]
    exact h
  · unfold nameX at h
    rw [if_neg h0] at h
    cases h
theorem numsR_ext {b z : List UInt8} {en size : Nat} (he : en ≤ b.length) : ∀ (k pos : Nat) (acc : List Int), numsR (b ++ z) en size k pos acc = numsR b en size k pos acc
  | 0, pos, acc => rfl
  | k + 1, pos, acc => by
    rw [numsR, numsR, numR_ext he]
    cases numR b pos en size with
    | error e => rfl
    | ok r => exact numsR_ext he k r.2 _
theorem textsR_ext {b z : List UInt8} {en : Nat} (he : en ≤ b.length) : ∀ (k pos : Nat) (acc : List (List UInt8)), textsR (b ++ z) en k pos acc = textsR b en k pos acc
  | 0, pos, acc => rfl
  | k + 1, pos, acc => by
    rw [textsR, textsR, numR_ext he]
    split
    · cases numR b pos en 1 with
      | error e => rfl
      | ok r =>
        obtain ⟨n, q⟩ := r
        simp only
        rw [bytesR_ext he]
        cases bytesR b q en n with
        | error e => rfl
        | ok r2 => exact textsR_ext he k r2.2 _
    · rfl
theorem dataR_ext {b z : List UInt8} {pos en : Nat} {s : Shp} {r : Da × Nat} (he : en ≤ b.length) (h : dataR b pos en s = .ok r) : dataR (b ++ z) pos en s = .ok r := by
  unfold dataR at h ⊢
  simp only [bytesR_ext (z := z) he, numsR_ext (z := z) he, textsR_ext (z := z) he]
  by_cases c1 : s.bytes = 4
  · rw [if_pos c1] at h ⊢; exact h
  rw [if_neg c1] at h ⊢
  by_cases c2 : s.bytes = 16
  · rw [if_pos c2] at h ⊢; exact h
  rw [if_neg c2] at h ⊢
  by_cases c3 : s.bytes < 0
  · rw [if_pos c3] at h ⊢; exact h
  rw [if_neg c3] at h ⊢
  by_cases c4 : s.texts = true
  · rw [if_pos c4] at h ⊢; exact h
  rw [if_neg c4] at h ⊢
  by_cases c5 : s.first = true
  · rw [if_pos c5] at h ⊢
    cases h1 : numsR b en s.size.toNat s.nums.toNat pos [] with
    | error e => rw [h1] at h; cases h
    | ok t =>
      obtain ⟨x, q⟩ := t
      rw [h1] at h
      simp only at h ⊢
      cases h2 : nameX b q en with
      | error e => rw [h2] at h; cases h
      | ok u => rw [h2] at h; rw [nameX_ext h2]; exact h
  rw [if_neg c5] at h ⊢
  by_cases c6 : s.mail = true
  · rw [if_pos c6] at h ⊢
    cases h1 : nameX b pos en with
    | error e => rw [h1] at h; cases h
    | ok t =>
      obtain ⟨n, q⟩ := t
      rw [h1] at h
      rw [nameX_ext h1]
      simp only at h ⊢
      cases h2 : nameX b q en with
      | error e => rw [h2] at h; cases h
      | ok u => rw [h2] at h; rw [nameX_ext h2]; exact h
  rw [if_neg c6] at h ⊢
  cases h1 : nameX b pos en with
  | error e => rw [h1] at h; cases h
  | ok t => rw [h1] at h; rw [nameX_ext h1]; exact h
theorem getD_ext {b : List UInt8} (z : List UInt8) {a s k : Int} (h : (getD b a s k).2 = 0) : getD (b ++ z) a s k = getD b a s k := by
  unfold getD at h ⊢
  by_cases c1 : a < 0 ∨ s < 0 ∨ k < 1 ∨ 65535 < k
  · rw [if_pos c1, if_pos c1]
  rw [if_neg c1] at h
  rw [if_neg c1, if_neg c1]
  by_cases c2 : (b.length : Int) < a ∨ (b.length : Int) - a < s
  · rw [if_pos c2] at h; cases h
  rw [if_neg c2] at h
  rw [if_neg c2, if_neg (by rw [List.length_append]; omega)]
  cases hd : dataR b a.toNat (a.toNat + s.toNat) (shapeP k) with
  | error e => rw [hd] at h; exact absurd h (dataR_nz hd)
  | ok r => rw [dataR_ext (by omega) hd]
theorem nameA_ext {b : List UInt8} (z : List UInt8) {a : Int} (h : (nameA b a).2.2 = 0) : nameA (b ++ z) a = nameA b a := by
  unfold nameA at h ⊢
  by_cases c : a < 0
  · rw [if_pos c, if_pos c]
  · rw [if_neg c] at h
    rw [if_neg c, if_neg c]
    exact getP_ext z _ _ _ _ h
theorem getRR_ext {b : List UInt8} (z : List UInt8) {a : Int} (h : (getRR b a).2.2 = 0) : getRR (b ++ z) a = getRR b a := by
  unfold getRR at h ⊢
  by_cases c : (nameA b a).2.2 ≠ 0
  · rw [if_pos c] at h; exact absurd h c
  rw [nameA_ext z (Decidable.not_not.1 c)]
  rw [if_neg c] at h
  rw [if_neg c, if_neg c]
  generalize (nameA b a).2.1.toNat = p at h ⊢
  unfold getRR1 at h ⊢
  by_cases c1 : b.length < p + 10
  · rw [if_pos c1] at h; cases h
  rw [if_neg c1] at h
  rw [if_neg c1, if_neg (by rw [List.length_append]; omega)]
  have e0 : numA (b ++ z) p 2 = numA b p 2 := numA_ext (by omega)
  have e2 : numA (b ++ z) (p + 2) 2 = numA b (p + 2) 2 := numA_ext (by omega)
  have e4 : ttlA (b ++ z) p = ttlA b p := by unfold ttlA; rw [numA_ext (by omega)]
  have e8 : numA (b ++ z) (p + 8) 2 = numA b (p + 8) 2 := numA_ext (by omega)
  rw [e0, e2, e4, e8]
  by_cases c2 : numA b p 2 = 0
  · rw [if_pos c2] at h; cases h
  rw [if_neg c2] at h
  rw [if_neg c2, if_neg c2]
  by_cases c3 : (getD b ((p + 10 : Nat) : Int) (numA b (p + 8) 2 : Int) (numA b p 2 : Int)).2 ≠ 0
  · rw [if_pos c3] at h; exact absurd h c3
  rw [getD_ext z (Decidable.not_not.1 c3)]
theorem dQu_ext {b : List UInt8} (z : List UInt8) {p : Nat} {r : Qu × Nat} (h : dQu b p = .ok r) : dQu (b ++ z) p = .ok r := by
  unfold dQu at h ⊢
  by_cases c : (nameA b p).2.2 ≠ 0
  · rw [if_pos c] at h; cases h
  rw [nameA_ext z (Decidable.not_not.1 c)]
  rw [if_neg c] at h
  rw [if_neg c]
  by_cases c1 : b.length < (nameA b p).2.1.toNat + 4
  · rw [if_pos c1] at h; cases h
  rw [if_neg c1] at h
  rw [if_neg (by rw [List.length_append]; omega), numA_ext (by omega), numA_ext (by omega)]
  exact h
theorem dQus_ext {b : List UInt8} (z : List UInt8) (k : Nat) : ∀ {p : Nat} {acc : List Qu} {r : List Qu × Nat}, dQus b k p acc = .ok r → dQus (b ++ z) k p acc = .ok r := by
  induction k with
  | zero => intro p acc r h; exact h
  | succ k ih =>
    intro p acc r h
    rw [dQus] at h ⊢
    cases hq : dQu b p with
    | error e => rw [hq] at h; cases h
    | ok t =>
      rw [hq] at h
      rw [dQu_ext z hq]
      exact ih h
theorem dRRs_ext {b : List UInt8} (z : List UInt8) (x : Bool) (k : Nat) : ∀ {p : Nat} {o : Opt} {acc : List RR} {r : List RR × Nat × Opt}, dRRs b x k p o acc = .ok r → dRRs (b ++ z) x k p o acc = .ok r := by
  induction k with
  | zero => intro p o acc r h; exact h
  | succ k ih =>
    intro p o acc r h
    rw [dRRs] at h ⊢
    by_cases c : (getRR b p).2.2 ≠ 0
    · rw [if_pos c] at h; cases h
    rw [getRR_ext z (Decidable.not_not.1 c)]
    rw [if_neg c] at h
    rw [if_neg c]
    by_cases c1 : (getRR b p).1.type = 41
    · rw [if_pos c1] at h
      rw [if_pos c1]
      by_cases c2 : x = false ∨ o.edns = true ∨ (getRR b p).1.name ≠ []
      · rw [if_pos c2] at h; cases h
      · rw [if_neg c2] at h
        rw [if_neg c2]
        exact ih h
    · rw [if_neg c1] at h
      rw [if_neg c1]
      exact ih h
/-- What is a message is none with more behind it. -/
theorem decP_ext {b : List UInt8} {z : List UInt8} {m : Ms} (h : decP b = .ok m) (hz : 0 < z.length) (hl : (b ++ z).length ≤ 65535) : decP (b ++ z) = .error 7 := by
  unfold decP at h ⊢
  by_cases c1 : 65535 < b.length
  · rw [if_pos c1] at h; cases h
  rw [if_neg c1] at h
  rw [if_neg (by omega)]
  by_cases c2 : b.length < 12
  · rw [if_pos c2] at h; cases h
  rw [if_neg c2] at h
  rw [if_neg (by rw [List.length_append]; omega)]
  have e4 : numA (b ++ z) 4 2 = numA b 4 2 := numA_ext (by omega)
  have e6 : numA (b ++ z) 6 2 = numA b 6 2 := numA_ext (by omega)
  have e8 : numA (b ++ z) 8 2 = numA b 8 2 := numA_ext (by omega)
  have e10 : numA (b ++ z) 10 2 = numA b 10 2 := numA_ext (by omega)
  rw [e4, e6, e8, e10]
  by_cases c3 : 513 < numA b 4 2 + numA b 6 2 + numA b 8 2 + numA b 10 2
  · rw [if_pos c3] at h; cases h
  rw [if_neg c3] at h
  rw [if_neg c3]
  cases h1 : dQus b (numA b 4 2) 12 [] with
  | error e => rw [h1] at h; cases h
  | ok r1 =>
    obtain ⟨qs, p1⟩ := r1
    rw [h1] at h
    rw [dQus_ext z _ h1]
    simp only at h ⊢
    cases h2 : dRRs b false (numA b 6 2) p1 ⟨false, 0⟩ [] with
    | error e => rw [h2] at h; cases h
    | ok r2 =>
      obtain ⟨an, p2, o2⟩ := r2
      rw [h2] at h
      rw [dRRs_ext z _ _ h2]
      simp only at h ⊢
      cases h3 : dRRs b false (numA b 8 2) p2 o2 [] with
      | error e => rw [h3] at h; cases h
      | ok r3 =>
        obtain ⟨au, p3, o3⟩ := r3
        rw [h3] at h
        rw [dRRs_ext z _ _ h3]
        simp only at h ⊢
        cases h4 : dRRs b true (numA b 10 2) p3 o3 [] with
        | error e => rw [h4] at h; cases h
        | ok r4 =>
          obtain ⟨ex, p4, o4⟩ := r4
          rw [h4] at h
          rw [dRRs_ext z _ _ h4]
          simp only at h ⊢
          have q1 := dQus_next _ (by omega) h1
          have q2 := (dRRs_bytes _ q1 h2).2
          have q3 := (dRRs_bytes _ q2 h3).2
          have q4 := (dRRs_bytes _ q3 h4).2
          rw [if_pos (by rw [List.length_append]; omega)]
theorem dQu_nz {b : List UInt8} {p : Nat} {e : Int} (h : dQu b p = .error e) : e ≠ 0 := by
  unfold dQu at h
  repeat' split at h
  all_goals first
    | (cases h; done)
    | (injection h with h; subst h; first | assumption | decide)
theorem dQus_nz {b : List UInt8} (k : Nat) : ∀ {p : Nat} {acc : List Qu} {e : Int}, dQus b k p acc = .error e → e ≠ 0 := by
  induction k with
  | zero => intro p acc e h; cases h
  | succ k ih =>
    intro p acc e h
    rw [dQus] at h
    cases hq : dQu b p with
    | error x => rw [hq] at h; injection h with h; subst h; exact dQu_nz hq
    | ok t => rw [hq] at h; exact ih h
theorem dRRs_nz {b : List UInt8} (x : Bool) (k : Nat) : ∀ {p : Nat} {o : Opt} {acc : List RR} {e : Int}, dRRs b x k p o acc = .error e → e ≠ 0 := by
  induction k with
  | zero => intro p o acc e h; cases h
  | succ k ih =>
    intro p o acc e h
    rw [dRRs] at h
    by_cases c : (getRR b p).2.2 ≠ 0
    · rw [if_pos c] at h; injection h with h; subst h; exact c
    rw [if_neg c] at h
    by_cases c1 : (getRR b p).1.type = 41
    · rw [if_pos c1] at h
      by_cases c2 : x = false ∨ o.edns = true ∨ (getRR b p).1.name ≠ []
      · rw [if_pos c2] at h; injection h with h; subst h; decide
      · rw [if_neg c2] at h; exact ih h
    · rw [if_neg c1] at h; exact ih h
theorem decP_nz {b : List UInt8} {e : Int} (h : decP b = .error e) : e ≠ 0 := by
  unfold decP at h
  split at h
  · injection h with h; subst h; decide
  split at h
  · injection h with h; subst h; decide
  split at h
  · injection h with h; subst h; decide
  split at h
  · rename_i h1; injection h with h; subst h; exact dQus_nz _ h1
  split at h
  · rename_i h1; injection h with h; subst h; exact dRRs_nz _ _ h1
  split at h
  · rename_i h1; injection h with h; subst h; exact dRRs_nz _ _ h1
  split at h
  · rename_i h1; injection h with h; subst h; exact dRRs_nz _ _ h1
  split at h
  · injection h with h; subst h; decide
  · cases h
/-- A message's beginning is none. -/
theorem decP_cut {m : Ms} (hf : FineM m) (hl : (msW m).b.length ≤ 65535) {k : Nat} (hk : k < (msW m).b.length) : ∃ e, decP ((msW m).b.take k) = .error e ∧ e ≠ 0 := by
  cases h : decP ((msW m).b.take k) with
  | ok m' =>
    have h1 := decP_ext (z := (msW m).b.drop k) h (by rw [List.length_drop]; omega) (by rw [List.take_append_drop]; exact hl)
    rw [List.take_append_drop, decode_back hf hl] at h1
    cases h1
  | error e => exact ⟨e, rfl, decP_nz h⟩
end Go.Proofs.Ytmkfjddighabcaa
