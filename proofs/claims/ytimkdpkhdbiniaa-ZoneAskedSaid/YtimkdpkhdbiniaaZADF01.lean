/- Parts of a proof, joined: IdxA, FaP, Fact1. -/
import Derived.Test.YtimkdpkhdbiniaaZADM05
import Derived.Test.YtimkdpkhdbiniaaZADM02
import Derived.Test.YtimkdpkhdbiniaaZADM01
import Derived.Test.YtimkdpkhdbiniaaZADM02b
import Derived.Test.YtimkdpkhdbiniaaZADM03
/- slices.IndexFunc and ContainsFunc over data; what is among data; the program's sets and the reference's. -/
namespace Go.Proofs.Ytimkdpkhdbiniaa
open Go.RowKit
set_option maxRecDepth 100000

/-- Data's five cells, at a place. -/
def DCells (w : World) (b p : Nat) (s : DS) (x : Da) : Prop :=
  w.cell? ⟨b, p, none⟩ = some (.slice s.A0 x.bytes.length s.c0) ∧ w.cell? ⟨b, p + 1, none⟩ = some (.slice s.A1 x.host.length s.c1) ∧ w.cell? ⟨b, p + 2, none⟩ = some (.slice s.A2 x.mail.length s.c2) ∧ w.cell? ⟨b, p + 3, none⟩ = some (.slice s.A3 x.nums.length s.c3) ∧ w.cell? ⟨b, p + 4, none⟩ = some (.slice s.A4 x.texts.length s.c4)
theorem DCells.below {w w' : World} {b p : Nat} {s : DS} {x : Da} (h : DCells w b p s x) (hb : Below w.heap.size w w') : DCells w' b p s x := by
  obtain ⟨h0, h1, h2, h3, h4⟩ := h
  exact ⟨below_cell hb h0, below_cell hb h1, below_cell hb h2, below_cell hb h3, below_cell hb h4⟩
theorem da_at {So Si : Nat → Prop} {w : World} {A : Option Addr} {n : Nat} {xs : List Da} (h : Els encDa So Si w A n xs) {k : Nat} {r : Da} (hx : xs[k]? = some r) :
    ∃ b off s, A = some ⟨b, off, none⟩ ∧ So b ∧ DIn Si w s r ∧ DCells w b (off + k * 5) s r := by
  obtain ⟨b, off, rfl, hb, hat⟩ := Els.flat h (by rw [← h.len]; exact Nat.lt_of_le_of_lt (Nat.zero_le k) (List.getElem?_eq_some_iff.1 hx).1)
  obtain ⟨r', ⟨s, rfl, hr⟩, hc⟩ := hat k r hx
  refine ⟨b, off, s, rfl, hb, hr, ?_⟩
  have hc' : ∀ j u, (dCells s r).toList[j]? = some u → w.cell? ⟨b, off + k * 5 + j, none⟩ = some u := fun j u hu => by rw [Nat.add_assoc]; exact hc j u hu
  exact ⟨hc' 0 _ rfl, hc' 1 _ rfl, hc' 2 _ rfl, hc' 3 _ rfl, hc' 4 _ rfl⟩
theorem any_take_succ {α : Type} {p : α → Bool} {xs : List α} {k : Nat} {x : α} (hx : xs[k]? = some x) (h : (xs.take k).any p = false) (hp : p x = false) : (xs.take (k + 1)).any p = false := by
  rw [List.take_add_one, hx, List.any_append, h, Option.toList_some]
  simp [hp]
def inD (xs : List Da) (d : Da) : Bool := xs.any fun x => sameD x d
theorem elDa : ElT Try.prog 43 46 encDa 120 := ElT.mk Try.underlying43 (.agg #[.slice none 0 0, .slice none 0 0, .slice none 0 0, .slice none 0 0, .slice none 0 0]) 5 (by kernel_rfl) rfl rfl
end Go.Proofs.Ytimkdpkhdbiniaa

/- Facts, in plain Lean, and how one lies in memory. -/
namespace Go.Proofs.Ytimkdpkhdbiniaa
open Go.RowKit
set_option maxRecDepth 100000

/-- A fact. -/
structure Fa where
  name : List (List UInt8)
  type : Int
  kind : Int
  rank : Int
  got : Int
  ttl : Int
  set : List Da
  zone : List (List UInt8)
  soa : Da
def Fa.zero : Fa := ⟨[], 0, 0, 0, 0, 0, [], [], Da.zero⟩
def underB (n z : List (List UInt8)) : Bool := decide (z.length ≤ n.length) && decide (lowN (n.drop (n.length - z.length)) = lowN z)
/-- Where a fact's slices lead. -/
structure FS where
  A : Option Addr
  ac : Nat
  S : Option Addr
  sc : Nat
  Z : Option Addr
  zc : Nat
  d : DS
section
variable {S S' : Nat → Prop} {w w' : World} {s : FS} {f : Fa}
end
section
variable {w w' : World} {q : Nat} {s : FS} {f : Fa}
end
end Go.Proofs.Ytimkdpkhdbiniaa

/- The small functions that facts lean on: ttl.Time, fact.Typed, fact.none, name.Under. -/
namespace Go.Proofs.Ytimkdpkhdbiniaa
open Go.RowKit
set_option maxRecDepth 100000
set_option linter.unusedVariables false

set_option maxHeartbeats 2000000 in
theorem nunder_any (A A' : Option Addr) (n c n' c' : Nat) (xs ys : List (List UInt8)) (w : World) (hx : RdE encS w A n xs) (hy : RdE encS w A' n' ys) (hn : n ≤ 1000000000) (hn' : n' ≤ 1000000000) (hc : n ≤ c) :
    Calls Try.prog 83 #[.slice A n c, .slice A' n' c'] w (RetP (fun v _ => v = .bool (underB xs ys)) w) := by
  have hlx := hx.len
  have hly := hy.len
  by_cases h1 : n' ≤ n
  · have hF : underB xs ys = decide (lowN (xs.drop (n - n')) = lowN ys) := by unfold underB; rw [hlx, hly]; simp [h1]
    rw [hF]
    obtain ⟨k, hk⟩ : ∃ k, k + n' = n := ⟨n - n', by omega⟩
    have hkn : n - n' = k := by omega
    have hcut := Els.cut hx k c (by omega) hc
    rw [hkn]
    obtain ⟨B, hB⟩ : ∃ B, B = (if c = k then A else A.map (fun x => x.add k)) := ⟨_, rfl⟩
    rw [show k * encS.size = k from Nat.mul_one k, ← hB] at hcut
    have hnk : n - k = n' := by omega
    rw [hnk] at hcut
    have hge : (n' : Int) ≤ (n : Int) := by omega
    have hsub : (n : Int) - (n' : Int) = (k : Int) := by omega
    have hgd : decide ((n' : Int) ≤ (n : Int)) = true := decide_eq_true hge
    have HC := Lib.hid hcut
    have HY := Lib.hid hy
    have HBB := Lib.hid hB
    have HN : Hid (n' ≤ 1000000000) := hn'
    have HNK := Lib.hid hnk
    have hkb : k ≤ 1000000000 := by omega
    have hkc : (k : Int) ≤ (n : Int) := by omega
    clear hF hcut hB hkn hnk hx hy hlx hly
    go_enter Try.func83, Try.ntmps83
    go_upto_region 1 with (fail)
    go_wp2_with (first
      | (go_at_call 55; rw [← HBB.out, HNK.out]; refine (nequal_any B A' n' (c - k) n' c' (xs.drop k) ys w HC.out HY.out (Nat.le_trans HN.out (by unfold maxLen; omega)) (Nat.le_trans HN.out (by unfold maxLen; omega))).mono ?_; rintro e w1 ⟨v1, rfl, rfl, hb1⟩)
      | fail)
    go_ret
    exact ⟨_, rfl, rfl, hb1⟩
  · have hF : underB xs ys = false := by unfold underB; rw [hlx, hly]; simp [h1]
    have hge : ¬ (n' : Int) ≤ (n : Int) := by omega
    have hgd : decide ((n' : Int) ≤ (n : Int)) = false := decide_eq_false hge
    rw [hF]
    clear hF hx hy hlx hly
    go_enter Try.func83, Try.ntmps83
    go_wp2
    go_ret
    exact ⟨_, rfl, rfl, bl⟩
end Go.Proofs.Ytimkdpkhdbiniaa
