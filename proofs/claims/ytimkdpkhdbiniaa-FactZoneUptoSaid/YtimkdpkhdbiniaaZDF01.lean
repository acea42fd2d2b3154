/- Parts of a proof, joined: IdxA, IdxF, FaP, Fact1. -/
import Derived.Test.YtimkdpkhdbiniaaZDM05
import Derived.Test.YtimkdpkhdbiniaaZDM02
import Derived.Test.YtimkdpkhdbiniaaZDM01
import Derived.Test.YtimkdpkhdbiniaaZDM02b
import Derived.Test.YtimkdpkhdbiniaaZDM03
/- slices.IndexFunc and ContainsFunc over data; what is among data; the program's sets and the reference's. -/
namespace Go.Proofs.Ytimkdpkhdbiniaa
open Go.RowKit
set_option maxRecDepth 100000

/-- Data's five cells, at a place. -/
def DCells (w : World) (b p : Nat) (s : DS) (x : Da) : Prop :=
  w.cell? ⟨b, p, none⟩ = some (.slice s.A0 x.bytes.length s.c0) ∧ w.cell? ⟨b, p + 1, none⟩ = some (.slice s.A1 x.host.length s.c1) ∧ w.cell? ⟨b, p + 2, none⟩ = some (.slice s.A2 x.mail.length s.c2) ∧ w.cell? ⟨b, p + 3, none⟩ = some (.slice s.A3 x.nums.length s.c3) ∧ w.cell? ⟨b, p + 4, none⟩ = some (.slice s.A4 x.texts.length s.c4)
theorem DCells.below {w w' : World} {b p : Nat} {s : DS} {x : Da} (h : DCells w b p s x) (hb : Below w.heap.size w w') : DCells w' b p s x := by
  obtain ⟨h0, h1, h2, h3, h4⟩ := h
  exact ⟨below_cell hb h0, below_cell hb h1, below_cell hb h2, below_cell hb h3, below_cell hb h4⟩
theorem da_at {So Si : Nat → Prop} {w : World} {A : Option Addr} {n : Nat} {xs : List Da} (h : Els encDa So Si w A n xs) {k : Nat} {r : Da} (hx : xs[k]? = some r) :
    ∃ b off s, A = some ⟨b, off, none⟩ ∧ So b ∧ DIn Si w s r ∧ DCells w b (off + k * 5) s r := by
  obtain ⟨b, off, rfl, hb, hat⟩ := Els.flat h (by rw [← h.len]; exact Nat.lt_of_le_of_lt (Nat.zero_le k) (List.getElem?_eq_some_iff.1 hx).1)
  obtain ⟨r', ⟨s, rfl, hr⟩, hc⟩ := hat k r hx
  refine ⟨b, off, s, rfl, hb, hr, ?_⟩
  have hc' : ∀ j u, (dCells s r).toList[j]? = some u → w.cell? ⟨b, off + k * 5 + j, none⟩ = some u := fun j u hu => by rw [Nat.add_assoc]; exact hc j u hu
  exact ⟨hc' 0 _ rfl, hc' 1 _ rfl, hc' 2 _ rfl, hc' 3 _ rfl, hc' 4 _ rfl⟩
theorem any_take_succ {α : Type} {p : α → Bool} {xs : List α} {k : Nat} {x : α} (hx : xs[k]? = some x) (h : (xs.take k).any p = false) (hp : p x = false) : (xs.take (k + 1)).any p = false := by
  rw [List.take_add_one, hx, List.any_append, h, Option.toList_some]
  simp [hp]
def inD (xs : List Da) (d : Da) : Bool := xs.any fun x => sameD x d
theorem elDa : ElT Try.prog 43 46 encDa 120 := ElT.mk Try.underlying43 (.agg #[.slice none 0 0, .slice none 0 0, .slice none 0 0, .slice none 0 0, .slice none 0 0]) 5 (by kernel_rfl) rfl rfl
end Go.Proofs.Ytimkdpkhdbiniaa

/- slices.ContainsFunc over data, for fact.distinct. -/
namespace Go.Proofs.Ytimkdpkhdbiniaa
open Go.RowKit
set_option maxRecDepth 100000

set_option maxHeartbeats 1000000 in
theorem indexDi_any (q0 : Nat) (p : Da → Bool) (A : Option Addr) (n c : Nat) (xs : List Da) (w : World) (h : RdE encDa w A n xs) (hn : n ≤ 1000000000)
    (hf : ∀ (s : DS) (x : Da) (W : World), Below w.heap.size w W → DRd W s x → Calls Try.prog 154 #[dsV s x, .pointer (some ⟨q0, 0, none⟩)] W (RetP (fun v _ => v = .bool (p x)) W)) :
    Calls Try.prog 185 #[.slice A n c, .func (.func 154) #[] #[.pointer (some ⟨q0, 0, none⟩)]] w (RetP (fun v _ => ∃ i : Int, v = .int .i64 i ∧ (0 ≤ i ↔ xs.any p = true)) w) := by
  have hl := h.len
  subst hl
  have H := Lib.hid h
  have HF := Lib.hid hf
  clear h hf
  go_enter Try.func185, Try.ntmps185
  go_wp2
  go_loopw [5, 8] (fun _ iv wr => ∃ k : Nat, iv = .int .i64 k ∧ k ≤ xs.length ∧ Hid ((xs.take k).any p = false) ∧ Hid (Below w.heap.size w wr)) (fun _ iv _ => xs.length - (intOf iv).toNat)
  case atStart => exact ⟨0, rfl, Nat.zero_le _, rfl, bl⟩
  case round =>
    obtain ⟨k, rfl, hk, HK, HBW⟩ := hrel
    by_cases hlt : k < xs.length
    · obtain ⟨x, hx⟩ : ∃ x, xs[k]? = some x := ⟨_, List.getElem?_eq_getElem hlt⟩
      obtain ⟨b, off, s, rfl, _, hd, hc⟩ := da_at H.out hx
      obtain ⟨d0, d1, d2, d3, d4⟩ := hc.below HBW.out
      have hq := HF.out s x wr HBW.out ((hd.rd (fun b hb => hb)).below HBW.out)
      have HX := Lib.hid hx
      unfold dsV at hq
      clear hx hd hc
      cases hp : p x with
      | false =>
        rw [hp] at hq
        have HQ := Lib.hid hq
        have HP := Lib.hid hp
        clear hq hp
        go_wp2_with (go_at_call 154; refine HQ.out.mono ?_; rintro e w1 ⟨v1, rfl, rfl, hb1⟩)
        go_roundw
        case rel => exact ⟨k + 1, by go_num, by omega, any_take_succ HX.out HK.out HP.out, nx HBW.out hb1⟩
        case measure => simp [intOf]; omega
      | true =>
        rw [hp] at hq
        have HQ := Lib.hid hq
        have HP := Lib.hid hp
        clear hq hp
        go_wp2_with (go_at_call 154; refine HQ.out.mono ?_; rintro e w1 ⟨v1, rfl, rfl, hb1⟩)
        go_ret
        exact ⟨_, rfl, ⟨_, rfl, ⟨fun _ => List.any_eq_true.2 ⟨x, List.mem_of_getElem? HX.out, HP.out⟩, fun _ => Int.natCast_nonneg _⟩⟩, nx HBW.out hb1⟩
    · obtain rfl : k = xs.length := by omega
      rw [List.take_length] at HK
      go_wp2
      go_ret
      exact ⟨_, rfl, ⟨-1, rfl, ⟨fun h => absurd h (by decide), fun h => by rw [HK.out] at h; cases h⟩⟩, HBW.out⟩
theorem hasDi_any (q0 : Nat) (p : Da → Bool) (A : Option Addr) (n c : Nat) (xs : List Da) (w : World) (h : RdE encDa w A n xs) (hn : n ≤ 1000000000)
    (hf : ∀ (s : DS) (x : Da) (W : World), Below w.heap.size w W → DRd W s x → Calls Try.prog 154 #[dsV s x, .pointer (some ⟨q0, 0, none⟩)] W (RetP (fun v _ => v = .bool (p x)) W)) :
    Calls Try.prog 153 #[.slice A n c, .func (.func 154) #[] #[.pointer (some ⟨q0, 0, none⟩)]] w (RetP (fun v _ => v = .bool (xs.any p)) w) := by
  have HQ := Lib.hid (indexDi_any q0 p A n c xs w h hn hf)
  clear h hf
  go_enter Try.func153, Try.ntmps153
  go_wp2_with (go_at_call 185; refine HQ.out.mono ?_; rintro e w1 ⟨v1, rfl, ⟨i, rfl, hi⟩, hb1⟩; have HI := Lib.hid hi; clear hi)
  go_ret
  refine ⟨_, rfl, ?_, hb1⟩
  show Value.bool _ = Value.bool _
  congr 1
  rw [Bool.eq_iff_iff, decide_eq_true_iff, HI.out]
end Go.Proofs.Ytimkdpkhdbiniaa

/- Facts, in plain Lean, and how one lies in memory. -/
namespace Go.Proofs.Ytimkdpkhdbiniaa
open Go.RowKit
set_option maxRecDepth 100000

/-- A fact. -/
structure Fa where
  name : List (List UInt8)
  type : Int
  kind : Int
  rank : Int
  got : Int
  ttl : Int
  set : List Da
  zone : List (List UInt8)
  soa : Da
def Fa.zero : Fa := ⟨[], 0, 0, 0, 0, 0, [], [], Da.zero⟩
def typedB (k : Int) : Bool := decide (1 ≤ k) && decide (k ≤ 65534) && decide (k ≠ 41) && decide (k ≠ 255)
def noneD (d : Da) : Bool := decide (d.bytes.length + d.host.length + d.mail.length + d.nums.length + d.texts.length = 0)
/-- Is one of a set sound, and none ahead of it the same? -/
noncomputable def oneP (k : Int) (l : List Da) (i : Nat) : Bool := match l[i]? with
  | none => true
  | some d => fineB k d && !(inD (l.take i) d)
noncomputable def distP (k : Int) (l : List Da) : Nat → Bool
  | 0 => true
  | n + 1 => distP k l n && oneP k l n
theorem oneP_at {k : Int} {l : List Da} {i : Nat} {d : Da} (h : l[i]? = some d) : oneP k l i = (fineB k d && !(inD (l.take i) d)) := by unfold oneP; rw [h]
theorem distP_no {k : Int} {l : List Da} {i : Nat} (h : oneP k l i = false) : ∀ n, i < n → distP k l n = false := by
  intro n
  induction n with
  | zero => intro h1; omega
  | succ n ih =>
    intro h1
    unfold distP
    by_cases he : i = n
    · subst he; rw [h, Bool.and_false]
    · rw [ih (by omega), Bool.false_and]
def underB (n z : List (List UInt8)) : Bool := decide (z.length ≤ n.length) && decide (lowN (n.drop (n.length - z.length)) = lowN z)
noncomputable def fineH (f : Fa) : Bool := typedB f.type && decide (1 ≤ f.set.length) && decide (f.set.length ≤ 64) && distP f.type f.set f.set.length && decide (f.zone.length = 0) && noneD f.soa
noncomputable def fineN (f : Fa) : Bool := decide (f.ttl ≤ 10800) && decide (f.set.length = 0) && soundB f.zone && underB f.name f.zone && fineB 6 f.soa && ((decide (f.kind = 2) && typedB f.type) || (decide (f.kind = 3) && decide (f.type = 0)))
/-- May a fact be? -/
noncomputable def fineF (f : Fa) : Bool := soundB f.name && decide (1 ≤ f.rank) && decide (f.rank ≤ 4) && timeB f.got && decide (0 ≤ f.ttl) && decide (f.ttl ≤ 604800) && (if f.kind = 1 then fineH f else fineN f)

/-- Where a fact's slices lead. -/
structure FS where
  A : Option Addr
  ac : Nat
  S : Option Addr
  sc : Nat
  Z : Option Addr
  zc : Nat
  d : DS
def faCells (s : FS) (f : Fa) : Array Value := #[.slice s.A f.name.length s.ac, .int .i64 f.type, .int .i64 f.kind, .int .i64 f.rank, .int .i64 f.got, .int .i64 f.ttl, .slice s.S f.set.length s.sc, .slice s.Z f.zone.length s.zc, .slice s.d.A0 f.soa.bytes.length s.d.c0, .slice s.d.A1 f.soa.host.length s.d.c1, .slice s.d.A2 f.soa.mail.length s.d.c2, .slice s.d.A3 f.soa.nums.length s.d.c3, .slice s.d.A4 f.soa.texts.length s.d.c4]
def faV (s : FS) (f : Fa) : Value := .agg (faCells s f)
structure FaIn (S : Nat → Prop) (w : World) (s : FS) (f : Fa) : Prop where
  n : Els encS S S w s.A f.name.length f.name
  l : Els encDa S S w s.S f.set.length f.set
  z : Els encS S S w s.Z f.zone.length f.zone
  d : DIn S w s.d f.soa
  cn : f.name.length ≤ s.ac ∧ s.ac ≤ maxLen
  cl : f.set.length ≤ s.sc ∧ s.sc ≤ maxLen
  cz : f.zone.length ≤ s.zc ∧ s.zc ≤ maxLen
  it : i64S f.type
  ik : i64S f.kind
  ir : i64S f.rank
  ig : i64S f.got
  il : i64S f.ttl
section
variable {S S' : Nat → Prop} {w w' : World} {s : FS} {f : Fa}
theorem FaIn.mono (hS : ∀ b, S b → S' b) (h : FaIn S w s f) : FaIn S' w s f := ⟨h.n.mono hS hS, h.l.mono hS hS, h.z.mono hS hS, h.d.mono hS, h.cn, h.cl, h.cz, h.it, h.ik, h.ir, h.ig, h.il⟩
theorem FaIn.keep (hS : ∀ b, S b → w'.heap[b]? = w.heap[b]?) (h : FaIn S w s f) : FaIn S w' s f := ⟨h.n.keep hS hS, h.l.keep hS hS, h.z.keep hS hS, h.d.keep hS, h.cn, h.cl, h.cz, h.it, h.ik, h.ir, h.ig, h.il⟩
theorem FaIn.below (h : FaIn S w s f) (hb : Below w.heap.size w w') (hl : ∀ b, S b → b < w.heap.size) : FaIn S w' s f := h.keep fun b hbS => hb.block b (hl b hbS)
end
/-- A fact in a block of its own. -/
def FaRow (w : World) (q : Nat) (s : FS) (f : Fa) : Prop := w.heap[q]? = some (.cells (faCells s f) 48 (0, 0))
def FaCells (w : World) (q : Nat) (s : FS) (f : Fa) : Prop := w.cell? ⟨q, 0, none⟩ = some (.slice s.A f.name.length s.ac) ∧ w.cell? ⟨q, 1, none⟩ = some (.int .i64 f.type) ∧ w.cell? ⟨q, 2, none⟩ = some (.int .i64 f.kind) ∧ w.cell? ⟨q, 3, none⟩ = some (.int .i64 f.rank) ∧ w.cell? ⟨q, 4, none⟩ = some (.int .i64 f.got) ∧ w.cell? ⟨q, 5, none⟩ = some (.int .i64 f.ttl) ∧ w.cell? ⟨q, 6, none⟩ = some (.slice s.S f.set.length s.sc) ∧ w.cell? ⟨q, 7, none⟩ = some (.slice s.Z f.zone.length s.zc) ∧ w.cell? ⟨q, 8, none⟩ = some (.slice s.d.A0 f.soa.bytes.length s.d.c0) ∧ w.cell? ⟨q, 9, none⟩ = some (.slice s.d.A1 f.soa.host.length s.d.c1) ∧ w.cell? ⟨q, 10, none⟩ = some (.slice s.d.A2 f.soa.mail.length s.d.c2) ∧ w.cell? ⟨q, 11, none⟩ = some (.slice s.d.A3 f.soa.nums.length s.d.c3) ∧ w.cell? ⟨q, 12, none⟩ = some (.slice s.d.A4 f.soa.texts.length s.d.c4)
section
variable {w w' : World} {q : Nat} {s : FS} {f : Fa}
theorem FaRow.lt (h : FaRow w q s f) : q < w.heap.size := (Array.getElem?_eq_some_iff.1 h).1
theorem FaRow.below (h : FaRow w q s f) (hb : Below w.heap.size w w') : FaRow w' q s f := (hb.block q h.lt).trans h
theorem FaRow.cell (h : FaRow w q s f) (j : Nat) : w.cell? ⟨q, j, none⟩ = (faCells s f)[j]? := cell_of_row _ _ _ _ _ _ h
theorem FaRow.free (h : FaRow w q s f) (j : Nat) : w.frozen? ⟨q, j, none⟩ = false := frozen_of_row _ _ _ _ _ h
theorem FaRow.made (w : World) (s : FS) (f : Fa) : FaRow (w.alloc (.cells (faCells s f) 48)) w.heap.size s f := heap_alloc_new w _
theorem FaRow.cells (h : FaRow w q s f) : FaCells w q s f :=
  ⟨(h.cell 0).trans rfl, (h.cell 1).trans rfl, (h.cell 2).trans rfl, (h.cell 3).trans rfl, (h.cell 4).trans rfl, (h.cell 5).trans rfl, (h.cell 6).trans rfl, (h.cell 7).trans rfl, (h.cell 8).trans rfl, (h.cell 9).trans rfl, (h.cell 10).trans rfl, (h.cell 11).trans rfl, (h.cell 12).trans rfl⟩
end
/-- How large a fact may be to be looked at. -/
structure LtF (f : Fa) : Prop where
  n : f.name.length ≤ 1000000
  z : f.zone.length ≤ 1000000
  l : f.set.length ≤ 1000000
  s : ∀ d ∈ f.set, d.host.length ≤ 1000000 ∧ d.mail.length ≤ 1000000 ∧ d.nums.length ≤ 1000000 ∧ d.texts.length ≤ 1000000 ∧ d.bytes.length ≤ 1000000
  d : f.soa.host.length ≤ 1000000 ∧ f.soa.mail.length ≤ 1000000 ∧ f.soa.nums.length ≤ 1000000 ∧ f.soa.texts.length ≤ 8796093022208 ∧ f.soa.bytes.length ≤ 140737488355328
end Go.Proofs.Ytimkdpkhdbiniaa

/- The small functions that facts lean on: ttl.Time, fact.Typed, fact.none, name.Under. -/
namespace Go.Proofs.Ytimkdpkhdbiniaa
open Go.RowKit
set_option maxRecDepth 100000
set_option linter.unusedVariables false

set_option maxHeartbeats 1000000 in
theorem typed_any (t : Int) (w : World) : Calls Try.prog 106 #[.int .i64 t] w (Ret (.bool (typedB t)) w) := by
  by_cases h1 : 1 ≤ t
  · by_cases h2 : t ≤ 65534
    · by_cases h3 : t = 41
      · subst h3
        go_enter Try.func106, Try.ntmps106
        go_wp2
        go_ret
        exact ⟨rfl, rfl⟩
      · have h3d : (t != 41) = true := by simp [h3]
        by_cases h4 : t = 255
        · subst h4
          clear h3 h3d h1 h2
          go_enter Try.func106, Try.ntmps106
          go_wp2
          go_ret
          exact ⟨rfl, rfl⟩
        · have h4d : (t != 255) = true := by simp [h4]
          have hF : typedB t = true := by unfold typedB; simp [h1, h2, h3, h4]
          rw [hF]
          clear hF
          go_enter Try.func106, Try.ntmps106
          go_wp2
          go_ret
          exact ⟨rfl, rfl⟩
    · have hF : typedB t = false := by unfold typedB; simp [h2]
      have h2d : decide (t ≤ 65534) = false := decide_eq_false h2
      rw [hF]
      clear hF
      go_enter Try.func106, Try.ntmps106
      go_wp2
      go_ret
      exact ⟨rfl, rfl⟩
  · have hF : typedB t = false := by unfold typedB; simp [h1]
    have h1d : decide (1 ≤ t) = false := decide_eq_false h1
    rw [hF]
    clear hF
    go_enter Try.func106, Try.ntmps106
    go_wp2
    go_ret
    exact ⟨rfl, rfl⟩
set_option maxHeartbeats 1000000 in
theorem none_any (s : DS) (d : Da) (w : World) (hb : d.host.length ≤ 8796093022208 ∧ d.mail.length ≤ 8796093022208 ∧ d.nums.length ≤ 8796093022208 ∧ d.texts.length ≤ 8796093022208 ∧ d.bytes.length ≤ 140737488355328) : Calls Try.prog 108 #[dsV s d] w (RetP (fun v _ => v = .bool (noneD d)) w) := by
  obtain ⟨w1, hw1⟩ : ∃ w1, w1 = w.alloc (.cells #[.slice s.A0 d.bytes.length s.c0, .slice s.A1 d.host.length s.c1, .slice s.A2 d.mail.length s.c2, .slice s.A3 d.nums.length s.c3, .slice s.A4 d.texts.length s.c4] 46) := ⟨_, rfl⟩
  have hb1 : Below w.heap.size w w1 := by rw [hw1]; exact bl.alloc (Nat.le_refl _) _
  have BX : Hid (DBox w1 w.heap.size s d) := by show DBox _ _ _ _; rw [hw1]; exact DBox.made w s d _
  have HB1 := Lib.hid hb1
  have hsum : noneD d = decide (d.bytes.length + d.host.length + d.mail.length + d.nums.length + d.texts.length = 0) := rfl
  unfold dsV
  obtain ⟨a0, a1, a2, a3, a4⟩ := BX.out
  obtain ⟨b1, b2, b3, b4, b0⟩ := hb
  generalize d.bytes.length = n0 at *
  generalize d.host.length = n1 at *
  generalize d.mail.length = n2 at *
  generalize d.nums.length = n3 at *
  generalize d.texts.length = n4 at *
  clear hb1
  have HSUM := Lib.hid hsum
  clear hsum BX
  go_enter Try.func108, Try.ntmps108
  go_upto_region 1 with (fail)
  rw [← hw1]
  clear hw1
  go_wp2
  go_ret
  refine ⟨_, rfl, ?_, HB1.out⟩
  rw [HSUM.out]
  show Value.bool _ = Value.bool _
  congr 1
  rw [Bool.eq_iff_iff, decide_eq_true_iff]
  simp
  omega
set_option maxHeartbeats 2000000 in
theorem nunder_any (A A' : Option Addr) (n c n' c' : Nat) (xs ys : List (List UInt8)) (w : World) (hx : RdE encS w A n xs) (hy : RdE encS w A' n' ys) (hn : n ≤ 1000000000) (hn' : n' ≤ 1000000000) (hc : n ≤ c) :
    Calls Try.prog 83 #[.slice A n c, .slice A' n' c'] w (RetP (fun v _ => v = .bool (underB xs ys)) w) := by
  have hlx := hx.len
  have hly := hy.len
  by_cases h1 : n' ≤ n
  · have hF : underB xs ys = decide (lowN (xs.drop (n - n')) = lowN ys) := by unfold underB; rw [hlx, hly]; simp [h1]
    rw [hF]
    obtain ⟨k, hk⟩ : ∃ k, k + n' = n := ⟨n - n', by omega⟩
    have hkn : n - n' = k := by omega
    have hcut := Els.cut hx k c (by omega) hc
    rw [hkn]
    obtain ⟨B, hB⟩ : ∃ B, B = (if c = k then A else A.map (fun x => x.add k)) := ⟨_, rfl⟩
    rw [show k * encS.size = k from Nat.mul_one k, ← hB] at hcut
    have hnk : n - k = n' := by omega
    rw [hnk] at hcut
    have hge : (n' : Int) ≤ (n : Int) := by omega
    have hsub : (n : Int) - (n' : Int) = (k : Int) := by omega
    have hgd : decide ((n' : Int) ≤ (n : Int)) = true := decide_eq_true hge
    have HC := Lib.hid hcut
    have HY := Lib.hid hy
    have HBB := Lib.hid hB
    have HN : Hid (n' ≤ 1000000000) := hn'
    have HNK := Lib.hid hnk
    have hkb : k ≤ 1000000000 := by omega
    have hkc : (k : Int) ≤ (n : Int) := by omega
    clear hF hcut hB hkn hnk hx hy hlx hly
    go_enter Try.func83, Try.ntmps83
    go_upto_region 1 with (fail)
    go_wp2_with (first
      | (go_at_call 55; rw [← HBB.out, HNK.out]; refine (nequal_any B A' n' (c - k) n' c' (xs.drop k) ys w HC.out HY.out (Nat.le_trans HN.out (by unfold maxLen; omega)) (Nat.le_trans HN.out (by unfold maxLen; omega))).mono ?_; rintro e w1 ⟨v1, rfl, rfl, hb1⟩)
      | fail)
    go_ret
    exact ⟨_, rfl, rfl, hb1⟩
  · have hF : underB xs ys = false := by unfold underB; rw [hlx, hly]; simp [h1]
    have hge : ¬ (n' : Int) ≤ (n : Int) := by omega
    have hgd : decide ((n' : Int) ≤ (n : Int)) = false := decide_eq_false hge
    rw [hF]
    clear hF hx hy hlx hly
    go_enter Try.func83, Try.ntmps83
    go_wp2
    go_ret
    exact ⟨_, rfl, rfl, bl⟩
end Go.Proofs.Ytimkdpkhdbiniaa
