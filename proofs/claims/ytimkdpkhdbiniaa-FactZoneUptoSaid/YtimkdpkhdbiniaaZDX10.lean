/- Parts of a proof, joined: Tel3, Tel4. -/
import Derived.Test.YtimkdpkhdbiniaaZDX9
import Derived.Test.YtimkdpkhdbiniaaZDX3
import Derived.Test.YtimkdpkhdbiniaaZDX6
import Derived.Test.YtimkdpkhdbiniaaZDX8
/- ttl.Clamp; teller.has, loosely (printed by gen/tel3.py). -/
namespace Go.Proofs.Ytimkdpkhdbiniaa
open Go.RowKit
set_option maxRecDepth 100000
set_option linter.unusedVariables false

def clampP (t : Int) (neg : Bool) : Int := if (if neg = true then 10800 else 604800) < (if t < 0 then 0 else t) then (if neg = true then 10800 else 604800) else (if t < 0 then 0 else t)
theorem clampP_i64 {t : Int} {neg : Bool} : i64S (clampP t neg) := by
  unfold clampP i64S
  cases neg <;> simp <;> split <;> split <;> omega
theorem clamp_any (t : Int) (neg : Bool) (w : World) : Calls Try.prog 126 #[.int .i64 t, .bool neg] w (Ret (.int .i64 (clampP t neg)) w) := by
  cases neg with
  | true =>
    by_cases h1 : t < 0
    · have e : clampP t true = 0 := by unfold clampP; simp [h1]
      rw [e]
      clear e
      go_enter Try.func126, Try.ntmps126
      go_wp2
      go_ret
      exact ⟨rfl, rfl⟩
    by_cases h2 : 10800 < t
    · have e : clampP t true = 10800 := by unfold clampP; simp [h1, h2]
      rw [e]
      clear e
      go_enter Try.func126, Try.ntmps126
      go_wp2
      go_ret
      exact ⟨rfl, rfl⟩
    · have e : clampP t true = t := by unfold clampP; simp [h1, h2]
      rw [e]
      clear e
      go_enter Try.func126, Try.ntmps126
      go_wp2
      go_ret
      exact ⟨rfl, rfl⟩
  | false =>
    by_cases h1 : t < 0
    · have e : clampP t false = 0 := by unfold clampP; simp [h1]
      rw [e]
      clear e
      go_enter Try.func126, Try.ntmps126
      go_wp2
      go_ret
      exact ⟨rfl, rfl⟩
    by_cases h2 : 604800 < t
    · have e : clampP t false = 604800 := by unfold clampP; simp [h1, h2]
      rw [e]
      clear e
      go_enter Try.func126, Try.ntmps126
      go_wp2
      go_ret
      exact ⟨rfl, rfl⟩
    · have e : clampP t false = t := by unfold clampP; simp [h1, h2]
      rw [e]
      clear e
      go_enter Try.func126, Try.ntmps126
      go_wp2
      go_ret
      exact ⟨rfl, rfl⟩

theorem setP_snoc (l : List RR) (n : List (List UInt8)) (k : Int) (r : RR) : setP (l ++ [r]) n k = stepS n k (setP l n k) r := by unfold setP; rw [List.foldl_append]; rfl
theorem setP_mem (l : List RR) (n : List (List UInt8)) (k : Int) : ∀ d ∈ (setP l n k).1, ∃ r ∈ l, isR n k r = true ∧ r.data = d := by
  refine snoc_ind (P := fun l => ∀ d ∈ (setP l n k).1, ∃ r ∈ l, isR n k r = true ∧ r.data = d) (fun d h => (List.not_mem_nil h).elim) (fun l r ih d hd => ?_) l
  rw [setP_snoc] at hd
  cases hr : isR n k r with
  | false =>
    rw [stepS_no hr] at hd
    obtain ⟨x, hx, h⟩ := ih d hd
    exact ⟨x, List.mem_append_left _ hx, h⟩
  | true =>
    rw [stepS_yes hr] at hd
    have hd' : d ∈ (setP l n k).1 ∨ d = r.data := by
      revert hd
      simp only
      split
      · exact fun h => .inl h
      · exact fun h => (List.mem_append.1 h).elim .inl (fun h => .inr (List.mem_singleton.1 h))
    rcases hd' with hd' | rfl
    · obtain ⟨x, hx, h⟩ := ih d hd'
      exact ⟨x, List.mem_append_left _ hx, h⟩
    · exact ⟨r, List.mem_append_right _ (List.mem_singleton.2 rfl), hr, rfl⟩
/-- A record as large as one that is sound. -/
def SmR (r : RR) : Prop := r.name.length ≤ 255 ∧ SmD r.data
theorem SmR.light {r : RR} (h : SmR r) : Light9 r := by
  obtain ⟨h0, h1, h2, h3, h4, h5⟩ := h
  exact ⟨by omega, by omega, by omega, by omega, by omega, by omega⟩
/-- A fact that a set has made. -/
structure HasF (p : TP) (xs : List RR) (ns : List (List UInt8)) (kind : Int) (f : Fa) : Prop where
  fine : fineF f = true
  got : f.got = p.now
  under : underB f.name p.zs = true
  name : f.name = ns
  type : f.type = kind
  kd : f.kind = 1
  set : ∀ d ∈ f.set, ∃ r ∈ xs, isR ns kind r = true ∧ r.data = d

set_option maxHeartbeats 16000000 in
theorem has_any (p : TP) (B t : Nat) (Y : Nat → Prop) (v : Value) (out : List Fa) (w : World) (h : TSt p B Y w t v out) (A A' : Option Addr) (n c n' c' : Nat) (xs : List RR) (ns : List (List UInt8)) (kind rank : Int) (most : Nat) (hx : Els encRR (fun b => b < B) (fun b => b < B) w A n xs) (hns : RdE encS w A' n' ns) (hcn : n' ≤ c' ∧ c' ≤ maxLen) (hnl : n' ≤ 1000) (hn : n ≤ 100000) (hL : ∀ r ∈ xs, SmR r) (hki : i64S kind) (hri : i64S rank) (hm1 : 1 ≤ most) (hm2 : most ≤ 64) (hz : p.nz ≤ 1000000000) (hol : out.length ≤ 100000) :
    Calls Try.prog 121 #[.pointer (some ⟨t, 0, none⟩), .slice A n c, .slice A' n' c', .int .i64 kind, .int .i64 rank, .int .i64 (most : Int)] w (TCall p B Y t w v (fun r out' => ∃ b : Bool, r = .bool b ∧ out'.length ≤ out.length + 1 ∧ ∀ f ∈ out', f ∈ out ∨ HasF p xs ns kind f)) := by
  have hl := hns.len
  subst hl
  have c17 := (TRow.cells20 h.T).1
  have H := Lib.hid h
  have HX : Hid (∀ u, Below w.heap.size w u → RdE encRR u A n xs) := fun u hu => (hx.below hu (fun b hb => Nat.lt_trans hb h.size) (fun b hb => Nat.lt_trans hb h.size)).mono (fun b hb => Nat.lt_of_lt_of_le (Nat.lt_trans hb h.size) hu.size) (fun b hb => Nat.lt_of_lt_of_le (Nat.lt_trans hb h.size) hu.size)
  have HNS : Hid (∀ u, Below w.heap.size w u → RdE encS u A' ns.length ns) := fun u hu => hns.below hu
  have HUN := Lib.hid (nunder_any A' p.Z ns.length c' p.nz p.cz ns p.zs w hns (h.G.z.mono (fun b hb => Nat.lt_trans hb h.size) (fun b hb => Nat.lt_trans hb h.size)) (by omega) hz hcn.1)
  have HTY := Lib.hid (typed_any kind w)
  have HC := Lib.hid hcn
  have HNL := Lib.hid hnl
  have HN := Lib.hid hn
  have HL := Lib.hid hL
  have HKI := Lib.hid hki
  have HRI := Lib.hid hri
  have HM := Lib.hid (And.intro hm1 hm2)
  have HZ := Lib.hid hz
  have HOL := Lib.hid hol
  obtain ⟨ty, hty⟩ : ∃ b, b = typedB kind := ⟨_, rfl⟩
  obtain ⟨un, hun⟩ : ∃ b, b = underB ns p.zs := ⟨_, rfl⟩
  rw [← hty] at HTY
  rw [← hun] at HUN
  clear h hx hns hcn hnl hn hL hki hri hm1 hm2 hz hol hty hun
  cases ty with
  | false =>
    go_enter Try.func121, Try.ntmps121
    go_wp2_with (first
      | (go_at_call 106; refine HTY.out.mono ?_; rintro e w1 ⟨rfl, rfl⟩)
      | fail)
    go_ret
    exact ⟨_, v, out, rfl, H.out, TX.refl, false, rfl, Nat.le_succ _, fun f hf => .inl hf⟩
  | true =>
  cases un with
  | false =>
    go_enter Try.func121, Try.ntmps121
    go_wp2_with (first
      | (go_at_call 106; refine HTY.out.mono ?_; rintro e w1 ⟨rfl, rfl⟩)
      | (go_at_call 83; refine HUN.out.mono ?_; rintro e w1 ⟨v1, rfl, rfl, hb1⟩)
      | fail)
    go_ret
    exact ⟨_, v, out, rfl, H.out.below hb1, TX.of_below hb1, false, rfl, Nat.le_succ _, fun f hf => .inl hf⟩
  | true =>
  go_enter Try.func121, Try.ntmps121
  go_upto_region 3 with (first
    | (go_at_call 106; refine HTY.out.mono ?_; rintro e w1 ⟨rfl, rfl⟩)
    | (go_at_call 83; refine HUN.out.mono ?_; rintro e w1 ⟨v1, rfl, rfl, hb1⟩; have HB1 := Lib.hid hb1; clear hb1)
    | fail)
  clear c17
  obtain ⟨st, hst⟩ : ∃ x, x = setP xs ns kind := ⟨_, rfl⟩
  have HST := Lib.hid hst
  have HPS := Lib.hid (pset_any A A' n c ns.length c' xs ns kind w1 (HX.out _ HB1.out) (HNS.out _ HB1.out) (by have := HN.out; omega) (Nat.le_trans HC.out.1 HC.out.2) (fun r hr => (HL.out r hr).light))
  rw [← hst] at HPS
  obtain ⟨sl, ttl⟩ := st
  clear hst
  go_upto_region 4 with (first
    | (go_at_call 120; refine HPS.out.mono ?_; rintro e w2 ⟨v2, rfl, ⟨sv, rfl, hsv⟩, hb2⟩; have HSV := Lib.hid hsv; have HB2 := Lib.hid (nx HB1.out hb2); obtain ⟨SA, sc, hsve, hsr, hsc1, hsc2⟩ := hsv.rd; have HSR := Lib.hid hsr; have HSC : Hid (sl.length ≤ sc ∧ sc ≤ maxLen) := ⟨hsc1, hsc2⟩; obtain ⟨k, hk⟩ : ∃ k, k = sl.length := ⟨_, rfl⟩; have HK := Lib.hid hk; rw [← hk] at hsve; subst hsve; clear hk hsv hsr hsc1 hsc2 hb2)
    | fail)
  by_cases h0 : k = 0
  · subst h0
    go_wp2
    go_ret
    exact ⟨_, v, out, rfl, H.out.below HB2.out, TX.of_below HB2.out, false, rfl, Nat.le_succ _, fun f hf => .inl hf⟩
  have h0' : ¬ (k : Int) = 0 := by omega
  go_upto_region 6 with (fail)
  clear h0'
  obtain ⟨L, hL⟩ : ∃ L, L = if most < k then most else k := ⟨_, rfl⟩
  have hLk : L ≤ k ∧ L ≤ most := by rw [hL]; split <;> omega
  have hmin : (if most < k then (most : Int) else (k : Int)) = (L : Int) := by rw [hL]; split <;> rfl
  have hkc : k ≤ sc := by have := HSC.out.1; rw [HK.out]; exact this
  have hL0 : (0 : Int) ≤ (L : Int) := by omega
  have hLc : (L : Int) ≤ (sc : Int) := by omega
  have HLK := Lib.hid hLk
  have hlen : (sl.take L).length = L := by rw [List.length_take, ← HK.out]; omega
  have HLEN := Lib.hid hlen
  have HCL := Lib.hid (clamp_any ttl false w2.drew)
  have HADD : Hid (Calls Try.prog 128 #[.pointer (some ⟨t, 0, none⟩), .agg #[.slice A' ns.length c', .int .i64 kind, .int .i64 1, .int .i64 rank, .int .i64 0, .int .i64 (clampP ttl false), .slice SA L sc, .slice none 0 0, .slice none 0 0, .slice none 0 0, .slice none 0 0, .slice none 0 0, .slice none 0 0]] w2.drew (TCall p B Y t w2.drew v (fun r out' => r = .tuple #[] ∧ (out' = out ∨ (out' = out ++ [⟨ns, kind, 1, rank, p.now, clampP ttl false, sl.take L, [], Da.zero⟩] ∧ fineF ⟨ns, kind, 1, rank, p.now, clampP ttl false, sl.take L, [], Da.zero⟩ = true ∧ underB ns p.zs = true))))) := by
    have hfi : FaIn (fun b => b < w2.heap.size) w2 ⟨A', c', SA, sc, none, 0, DS.nil⟩ ⟨ns, kind, 1, rank, 0, clampP ttl false, sl.take L, [], Da.zero⟩ := by
      have l : (0 : Nat) ≤ 0 ∧ 0 ≤ maxLen := ⟨Nat.le_refl _, Nat.zero_le _⟩
      have e1 : Els encDa (fun b => b < w2.heap.size) (fun b => b < w2.heap.size) w2 SA (sl.take L).length (sl.take L) := by
        rw [hlen]
        exact (HSR.out.take (by rw [← HK.out]; omega)).mono (fun b hb => hb.2) (fun b hb => hb.2)
      have i0 : i64S 0 := ⟨by omega, by omega⟩
      have i1 : i64S 1 := ⟨by omega, by omega⟩
      exact ⟨HNS.out _ HB2.out, e1, Els.nil _ _ _ _ _, din_nil _ _, HC.out, ⟨by show (sl.take L).length ≤ sc; rw [hlen]; omega, HSC.out.2⟩, l, HKI.out, i1, HRI.out, i0, clampP_i64⟩
    have hsm : ∀ d ∈ sl.take L, SmD d := fun d hd => by
      obtain ⟨r, hr, _, hrd⟩ := setP_mem xs ns kind d (by rw [← HST.out]; exact List.mem_of_mem_take hd)
      rw [← hrd]
      exact (HL.out r hr).2
    have hb := HM.out.2
    have hz := smD_zero
    have hnl := HNL.out
    have hlt : LtF ⟨ns, kind, 1, rank, 0, clampP ttl false, sl.take L, [], Da.zero⟩ := ⟨by show ns.length ≤ _; omega, Nat.zero_le _, by show (sl.take L).length ≤ _; omega, fun d hd => by obtain ⟨a, b, c, e, g⟩ := hsm d hd; exact ⟨by omega, by omega, by omega, by omega, by omega⟩, ⟨Nat.zero_le _, Nat.zero_le _, Nat.zero_le _, Nat.zero_le _, Nat.zero_le _⟩⟩
    have hlg : LtG ⟨ns, kind, 1, rank, 0, clampP ttl false, sl.take L, [], Da.zero⟩ := ⟨by show ns.length ≤ _; omega, Nat.zero_le _, by show (sl.take L).length ≤ _; omega, fun d hd => by obtain ⟨a, b, c, e, g⟩ := hsm d hd; exact ⟨by omega, by omega, by omega, by omega, by omega⟩, ⟨Nat.zero_le _, Nat.zero_le _, Nat.zero_le _, Nat.zero_le _, Nat.zero_le _⟩⟩
    have ha := add_any p B t Y v out w2.drew ((H.out.below HB2.out).below bl.drew) ⟨A', c', SA, sc, none, 0, DS.nil⟩ ⟨ns, kind, 1, rank, 0, clampP ttl false, sl.take L, [], Da.zero⟩ (hfi.below bl.drew (fun b hb => hb)) (fun b hb => hb) hlt hlg HZ.out HOL.out
    unfold faV faCells at ha
    simp only [hlen, DS.nil, Da.zero, List.length_nil] at ha
    exact ha
  clear hlen hL hLk
  refine wp_region_any (by kernel_rfl) ?_
  change wpAny _ _ _ _ _ _ _ (World.drew w2)
  refine wpAny_of_P (S := fun W => True) (dem := fun _ => false) _ _ _ _ ?_
  refine wpAnyP_pure (i := 0) (v := .pointer (some ⟨t, 0, none⟩)) rfl (by kernel_rfl) (by kernel_rfl) (by kernel_rfl) rfl (fun _ _ _ h => h) (Or.inl ⟨by rfl, by (intro W _; go_simp)⟩) (fun _ => trivial) ?_
  refine wpAnyP_pure (i := 1) (v := .slice A' ns.length c') rfl (by kernel_rfl) (by kernel_rfl) (by kernel_rfl) rfl (fun _ _ _ h => h) (Or.inl ⟨by rfl, by (intro W _; go_simp)⟩) (fun _ => trivial) ?_
  refine wpAnyP_pure (i := 2) (v := .int .i64 kind) rfl (by kernel_rfl) (by kernel_rfl) (by kernel_rfl) rfl (fun _ _ _ h => h) (Or.inl ⟨by rfl, by (intro W _; go_simp)⟩) (fun _ => trivial) ?_
  refine wpAnyP_pure (i := 3) (v := .int .i64 rank) rfl (by kernel_rfl) (by kernel_rfl) (by kernel_rfl) rfl (fun _ _ _ h => h) (Or.inl ⟨by rfl, by (intro W _; go_simp)⟩) (fun _ => trivial) ?_
  refine wpAnyP_pure (i := 4) (v := .int .i64 ttl) rfl (by kernel_rfl) (by kernel_rfl) (by kernel_rfl) rfl (fun _ _ _ h => h) (Or.inl ⟨by rfl, by (intro W _; go_simp)⟩) (fun _ => trivial) ?_
  refine wpAnyP_pure (i := 6) (v := .slice SA k sc) rfl (by kernel_rfl) (by kernel_rfl) (by kernel_rfl) rfl (fun _ _ _ h => h) (Or.inl ⟨by rfl, by (intro W _; go_simp)⟩) (fun _ => trivial) ?_
  refine wpAnyP_pure (i := 7) (v := .slice SA k sc) rfl (by kernel_rfl) (by kernel_rfl) (by kernel_rfl) rfl (fun _ _ _ h => h) (Or.inl ⟨by rfl, by (intro W _; go_simp)⟩) (fun _ => trivial) ?_
  refine wpAnyP_pure (i := 8) (v := .int .i64 (k : Int)) rfl (by kernel_rfl) (by kernel_rfl) (by kernel_rfl) rfl (fun _ _ _ h => h) (Or.inl ⟨by rfl, by (intro W _; go_simp)⟩) (fun _ => trivial) ?_
  refine wpAnyP_pure (i := 9) (v := .int .i64 (most : Int)) rfl (by kernel_rfl) (by kernel_rfl) (by kernel_rfl) rfl (fun _ _ _ h => h) (Or.inl ⟨by rfl, by (intro W _; go_simp)⟩) (fun _ => trivial) ?_
  refine wpAnyP_pure (i := 10) (v := .int .i64 (L : Int)) rfl (by kernel_rfl) (by kernel_rfl) (by kernel_rfl) rfl (fun _ _ _ h => h) (Or.inl ⟨by rfl, by (intro W _; go_simp)⟩) (fun _ => trivial) ?_
  refine wpAnyP_pure (i := 11) (v := .slice SA L sc) rfl (by kernel_rfl) (by kernel_rfl) (by kernel_rfl) rfl (fun _ _ _ h => h) (Or.inl ⟨by rfl, by (intro W _; go_simp)⟩) (fun _ => trivial) ?_
  refine wpAnyP_one (i := 5) rfl (by kernel_rfl) fun K hK => ?_
  go_simp
  refine HCL.out.mono ?_
  rintro e w3 ⟨rfl, rfl⟩
  refine hK _ _ (fun _ => trivial) ?_
  clear hK
  refine wpAnyP_pure (i := 12) (v := .agg #[.slice A' ns.length c', .int .i64 kind, .int .i64 1, .int .i64 rank, .int .i64 0, .int .i64 (clampP ttl false), .slice SA L sc, .slice none 0 0, .slice none 0 0, .slice none 0 0, .slice none 0 0, .slice none 0 0, .slice none 0 0]) rfl (by kernel_rfl) (by kernel_rfl) (by kernel_rfl) rfl (fun _ _ _ h => h) (Or.inl ⟨by rfl, by (intro W _; go_simp)⟩) (fun _ => trivial) ?_
  refine wpAnyP_one (i := 13) rfl (by kernel_rfl) fun K hK => ?_
  go_simp
  refine HADD.out.mono ?_
  rintro e w4 ⟨r4, v4, out4, rfl, hT4, hX4, rfl, hO4⟩
  refine hK _ _ (fun _ => trivial) ?_
  clear hK
  refine wpAnyP_done (by kernel_rfl) ?_ _
  have HT4 := Lib.hid hT4
  have HX4 : Hid (TX t w v w4 v4) := (TX.of_below (HB2.out.trans (Below.mono bl.drew HB2.out.size))).trans hX4
  have HO4 := Lib.hid hO4
  clear hT4 hX4 hO4 hmin hkc hL0 hLc
  go_wp2
  go_ret
  refine ⟨_, v4, out4, rfl, HT4.out, HX4.out, true, rfl, ?_⟩
  rcases HO4.out with e | ⟨e, h1, h2⟩
  · subst e
    exact ⟨Nat.le_succ _, fun f hf => .inl hf⟩
  · subst e
    refine ⟨by rw [List.length_append, List.length_singleton]; exact Nat.le_refl _, fun f hf => ?_⟩
    rcases List.mem_append.1 hf with hf | hf
    · exact .inl hf
    · rw [List.mem_singleton.1 hf]
      exact .inr ⟨h1, rfl, h2, rfl, rfl, rfl, fun d hd => setP_mem xs ns kind d (by rw [← HST.out]; exact List.mem_of_mem_take hd)⟩
end Go.Proofs.Ytimkdpkhdbiniaa

/- teller.chain, loosely (printed by gen/tel4.py). -/
namespace Go.Proofs.Ytimkdpkhdbiniaa
open Go.RowKit
set_option maxRecDepth 100000
set_option linter.unusedVariables false

/-- A name that is read from blocks that are not among X. -/
structure NmIn (w : World) (X : Nat → Prop) (A : Option Addr) (c : Nat) (ns : List (List UInt8)) : Prop where
  e : ∃ S, Els encS S S w A ns.length ns ∧ ∀ b, S b → b < w.heap.size ∧ ¬ X b
  c : ns.length ≤ c ∧ c ≤ maxLen
  l : ns.length ≤ 1000
section
variable {w w' : World} {X X' F : Nat → Prop} {A : Option Addr} {c : Nat} {ns : List (List UInt8)}
theorem NmIn.rd (h : NmIn w X A c ns) : RdE encS w A ns.length ns := by
  obtain ⟨S, he, hS⟩ := h.e
  exact he.mono (fun b hb => (hS b hb).1) (fun b hb => (hS b hb).1)
theorem NmIn.chg (h : NmIn w X A c ns) (hc : Chg F w w') (hF : ∀ b, F b → X b) (hX : ∀ b, X' b → X b ∨ w.heap.size ≤ b) : NmIn w' X' A c ns := by
  obtain ⟨S, he, hS⟩ := h.e
  have k : ∀ b, S b → w'.heap[b]? = w.heap[b]? := fun b hb => hc.block b (hS b hb).1 (fun e => (hS b hb).2 (hF b e))
  exact ⟨⟨S, he.keep k k, fun b hb => ⟨Nat.lt_of_lt_of_le (hS b hb).1 hc.size, fun e => (hX b e).elim (hS b hb).2 (fun h => by have := (hS b hb).1; omega)⟩⟩, h.c, h.l⟩
theorem NmIn.below (h : NmIn w X A c ns) (hb : Below w.heap.size w w') : NmIn w' X A c ns := h.chg (F := fun _ => False) (Chg.of_below hb) (fun _ h => h.elim) (fun _ h => .inl h)
end
/-- A fact that a set of these records has made. -/
def GoodA (p : TP) (xs : List RR) (f : Fa) : Prop := ∃ ns k, HasF p xs ns k f
theorem TSt.name {p : TP} {B : Nat} {Y : Nat → Prop} {u : World} {t : Nat} {v : Value} {out : List Fa} (h : TSt p B Y u t v out) (hq : p.q.name.length ≤ 1000) {X : Nat → Prop} (hX : ∀ b, X b → B ≤ b) : NmIn u X p.sq.A p.sq.c p.q.name :=
  ⟨⟨_, h.G.q.n, fun b hb => ⟨Nat.lt_trans hb h.size, fun e => by have := hX b e; omega⟩⟩, h.G.q.cn, hq⟩
theorem own_lit1 {α : Type} {E : Enc α} {e : TypeId} {w : World} {S : Nat → Prop} {r : List Value} {x : α} (hr : E.R S w r x) (hS : ∀ b, S b → b < w.heap.size) : OwnE E e S (w.alloc (.cells r.toArray e)) w.heap.size (.slice (some ⟨w.heap.size, 0, none⟩) 1 1) [x] := by
  have hl := E.len hr
  refine ⟨r, ?_, fun i y hy => ?_, fun b hb => ⟨by have := hS b hb; simp; omega, fun e => by have h1 := hS b hb; injection e with e; rw [e] at h1; exact Nat.lt_irrefl _ h1⟩⟩
  · have h := World.ownsRow_lit (e := e) (size := E.size) (base := w.heap.size) w r.toArray 1 (Nat.le_refl _) (by unfold maxLen; omega) (by simpa using hl)
    simpa using h
  · rcases i with _ | i
    · have hy' : y = x := by simpa using hy.symm
      subst hy'
      rw [Nat.zero_mul, List.drop_zero, List.take_of_length_le (by omega)]
      exact E.keep (fun b hb => (bl.alloc (Nat.le_refl _) _).block b (hS b hb)) hr
    · simp at hy
/-- Where the chain stands. -/
structure ChSt (p : TP) (B : Nat) (Y : Nat → Prop) (t : Nat) (w : World) (v : Value) (out : List Fa) (b3 i : Nat) (wr : World) (A : Option Addr) (c : Nat) (ns : List (List UInt8)) (sv : Value) (ls : List (List (List UInt8))) (v' : Value) (out' : List Fa) : Prop where
  T : TSt p B (fun b => Y b ∨ b = b3 ∨ sv.ownBlock = some b) wr t v' out'
  X : TX t w v wr v'
  box : wr.heap[b3]? = some (.cells #[.slice A ns.length c] 23 (0, 0))
  nm : NmIn wr (fun b => b = t ∨ v'.ownBlock = some b ∨ b = b3 ∨ sv.ownBlock = some b) A c ns
  seen : ∃ S, OwnE (slE encS) 23 S wr w.heap.size sv ls ∧ ∀ b, S b → ¬ (b = t ∨ v'.ownBlock = some b ∨ b = b3)
  sb : sv.ownBlock ≠ some b3
  b3 : w.heap.size ≤ b3
  ll : ls.length ≤ i + 1
  ol : out'.length ≤ out.length + i
  good : ∀ f ∈ out', f ∈ out ∨ GoodA p p.m.an f
section
variable {p : TP} {B : Nat} {Y : Nat → Prop} {t : Nat} {w : World} {v : Value} {out : List Fa} {b3 i : Nat} {wr w' : World} {A : Option Addr} {c : Nat} {ns : List (List UInt8)} {sv : Value} {ls : List (List (List UInt8))} {v' v'' : Value} {out' out'' : List Fa}
theorem ChSt.below (h : ChSt p B Y t w v out b3 i wr A c ns sv ls v' out') (hb : Below wr.heap.size wr w') : ChSt p B Y t w v out b3 i w' A c ns sv ls v' out' := by
  obtain ⟨S, ho, hS⟩ := h.seen
  exact ⟨h.T.below hb, h.X.nx hb, (hb.block b3 (Array.getElem?_eq_some_iff.1 h.box).1).trans h.box, h.nm.below hb, ⟨S, ho.below hb, hS⟩, h.sb, h.b3, h.ll, h.ol, h.good⟩
theorem ChSt.cell (h : ChSt p B Y t w v out b3 i wr A c ns sv ls v' out') : wr.cell? ⟨b3, 0, none⟩ = some (.slice A ns.length c) := (cell_of_row _ _ _ _ _ _ h.box).trans rfl
/-- Behind a call that may have found a fact. -/
theorem ChSt.found (h : ChSt p B Y t w v out b3 i wr A c ns sv ls v' out') (ht : t < w.heap.size) (hT : TSt p B (fun b => Y b ∨ b = b3 ∨ sv.ownBlock = some b) w' t v'' out'') (hX : TX t wr v' w' v'') (hol : out''.length ≤ out'.length + 1) (hg : ∀ f ∈ out'', f ∈ out' ∨ GoodA p p.m.an f) : ChSt p B Y t w v out b3 (i + 1) w' A c ns sv ls v'' out'' := by
  obtain ⟨S, ho, hS⟩ := h.seen
  have hb3 := h.b3
  have hSl := ho.S_lt
  have hb3l : b3 < wr.heap.size := (Array.getElem?_eq_some_iff.1 h.box).1
  have hvb : v'.ownBlock ≠ some b3 := fun e => h.T.tv b3 e (.inr (.inl rfl))
  refine ⟨hT, h.X.trans hX, hX.C.heap h.box (fun e => e.elim (fun e => by omega) hvb), h.nm.chg hX.C (fun b hb => hb.elim .inl (fun e => .inr (.inl e))) (fun b hb => ?_), ⟨S, ho.chg hX.C (fun k hk e => ?_) (fun b hb e => hS b hb (e.elim .inl (fun e => .inr (.inl e)))), fun b hb e => ?_⟩, h.sb, hb3, Nat.le_trans h.ll (Nat.le_succ _), by have := h.ol; omega, fun f hf => (hg f hf).elim (fun e => h.good f e) .inr⟩
  · rcases hb with hb | hb | hb | hb
    · exact .inl (.inl hb)
    · exact (hX.N b hb).elim (fun e => .inl (.inr (.inl e))) .inr
    · exact .inl (.inr (.inr (.inl hb)))
    · exact .inl (.inr (.inr (.inr hb)))
  · rcases e with e | e
    · have h1 := (ho.lt k hk).1; omega
    · exact h.T.tv k e (.inr (.inr hk))
  · rcases e with e | e | e
    · exact hS b hb (.inl e)
    · rcases hX.N b e with e | e
      · exact hS b hb (.inr (.inl e))
      · have := (hSl b hb).1; omega
    · exact hS b hb (.inr (.inr e))
/-- Another name in the box. -/
theorem ChSt.put {A' : Option Addr} {c' : Nat} {ms : List (List UInt8)} (h : ChSt p B Y t w v out b3 i wr A c ns sv ls v' out') (ht : t < w.heap.size) (hBw : B ≤ w.heap.size) (hn : NmIn wr (fun b => b = t ∨ v'.ownBlock = some b ∨ b = b3 ∨ sv.ownBlock = some b) A' c' ms) : ChSt p B Y t w v out b3 i (wr.setCell ⟨b3, 0, none⟩ (.slice A' ms.length c')) A' c' ms sv ls v' out' := by
  obtain ⟨S, ho, hS⟩ := h.seen
  have hb3 := h.b3
  have hc : Chg (fun k => k = b3) wr (wr.setCell ⟨b3, 0, none⟩ (.slice A' ms.length c')) := chg_g1 _ _ _ _
  exact ⟨h.T.chg hc (fun b hb => ⟨.inr (.inl hb), by omega, by omega⟩), ⟨h.X.C.trans hc (fun z hz => .inr (by omega)), h.X.N⟩, (heap_setCell_same _ _ _ _ _ _ h.box).trans rfl, hn.chg hc (fun b hb => .inr (.inr (.inl hb))) (fun b hb => .inl hb), ⟨S, ho.chg hc (fun k hk e => h.sb (by rw [← e]; exact hk)) (fun b hb e => hS b hb (.inr (.inr e))), hS⟩, h.sb, hb3, h.ll, h.ol, h.good⟩
/-- One more that was seen. -/
theorem ChSt.push {SO S' : Nat → Prop} {w8 : World} {v8 : Value} (h : ChSt p B Y t w v out b3 i wr A c ns sv ls v' out') (ht : t < w.heap.size) (hBw : B ≤ w.heap.size) {w6 : World} (hb6 : Below wr.heap.size wr w6) (hS : ∀ b, SO b → ¬ (b = t ∨ v'.ownBlock = some b ∨ b = b3)) (hS' : ∀ b, S' b → ¬ (b = t ∨ v'.ownBlock = some b ∨ b = b3)) (hown : OwnE (slE encS) 23 (orS SO S') w8 w.heap.size v8 (ls ++ [ns])) (hg : w6.grownBy w8 sv.ownBlock) (hv : v8.ownBlock = sv.ownBlock ∨ v8.ownBlock = some (w6.heap.size + 1)) (hl : ls.length ≤ i) : ChSt p B Y t w v out b3 i w8 A c ns v8 (ls ++ [ns]) v' out' := by
  have h6 := h.below hb6
  have hb3 := h.b3
  have hch : Chg (fun z => sv.ownBlock = some z) w6 w8 := (Chg.refl _ _).grown hg (fun k hk => .inl hk)
  obtain ⟨S0, ho0, hS0⟩ := h6.seen
  have hlt := ho0.lt
  have hb3l : b3 < w6.heap.size := (Array.getElem?_eq_some_iff.1 h6.box).1
  have hv8 : ∀ b, v8.ownBlock = some b → sv.ownBlock = some b ∨ w6.heap.size ≤ b := fun b hb => by
    rcases hv with e | e
    · exact .inl (by rw [← e]; exact hb)
    · rw [e] at hb; injection hb with hb; exact .inr (by omega)
  have hv8l : ∀ b, v8.ownBlock = some b → b < w8.heap.size := fun b hb => (hown.lt b hb).2
  have hT1 := h6.T.chg hch (fun b hb => ⟨.inr (.inr hb), by have h1 := (hlt b hb).1; omega, by have h1 := (hlt b hb).1; omega⟩)
  have hT2 : TSt p B (fun b => Y b ∨ b = b3 ∨ v8.ownBlock = some b) w8 t v' out' := by
    obtain ⟨S1, ho1, hS1⟩ := hT1.O
    obtain ⟨S6, ho6, hS6⟩ := h6.T.O
    have hSl6 := ho6.S_lt
    have hown6 := h6.T.own
    refine ⟨hT1.T, ⟨S6, ho6.chg hch (fun k hk e => h6.T.tv k hk (.inr (.inr e))) (fun b hb e => hS6 b hb (.inr (.inr e))), fun b hb e => ?_⟩, hT1.G, hT1.tB, fun k hk e => ?_, .inl (by rcases h6.T.Yt with e | e | e; exact e; exact absurd e (by omega); exact absurd (hlt t e).1 (by omega)), fun b hb => ?_⟩
    · rcases e with e | e | e
      · exact hS6 b hb (.inl e)
      · exact hS6 b hb (.inr (.inl e))
      · rcases hv8 b e with e | e
        · exact hS6 b hb (.inr (.inr e))
        · have := (hSl6 b hb).1; omega
    · rcases e with e | e | e
      · exact h6.T.tv k hk (.inl e)
      · exact h6.T.tv k hk (.inr (.inl e))
      · rcases hv8 k e with e | e
        · exact h6.T.tv k hk (.inr (.inr e))
        · have := (hown6 k hk).2; omega
    · rcases hb with hb | hb | hb
      · exact Nat.lt_of_lt_of_le (h6.T.Yl b (.inl hb)) hch.size
      · exact Nat.lt_of_lt_of_le (h6.T.Yl b (.inr (.inl hb))) hch.size
      · exact hv8l b hb
  refine ⟨hT2, ⟨h6.X.C.trans hch (fun z hz => .inr (hlt z hz).1), h6.X.N⟩, hch.heap h6.box h6.sb, h6.nm.chg hch (fun b hb => .inr (.inr (.inr hb))) (fun b hb => ?_), ⟨_, hown, fun b hb => hb.elim (hS b) (hS' b)⟩, fun e => ?_, hb3, by rw [List.length_append, List.length_singleton]; omega, h.ol, h.good⟩
  · rcases hb with hb | hb | hb | hb
    · exact .inl (.inl hb)
    · exact .inl (.inr (.inl hb))
    · exact .inl (.inr (.inr (.inl hb)))
    · exact (hv8 b hb).elim (fun e => .inl (.inr (.inr (.inr e)))) .inr
  · rcases hv8 b3 e with e | e
    · exact h6.sb e
    · omega
end
/-- What teller.chain hands back. -/
def ChRes (p : TP) (B : Nat) (Y : Nat → Prop) (t : Nat) (w : World) (v : Value) (out : List Fa) (e : Ending) (w' : World) : Prop :=
  ∃ A c ns v' out', e = .returned (.slice A ns.length c) ∧ TSt p B Y w' t v' out' ∧ TX t w v w' v' ∧ NmIn w' (fun b => b = t ∨ v'.ownBlock = some b) A c ns ∧ out'.length ≤ out.length + 16 ∧ ∀ f ∈ out', f ∈ out ∨ GoodA p p.m.an f
theorem ChSt.done {p : TP} {B : Nat} {Y : Nat → Prop} {t : Nat} {w : World} {v : Value} {out : List Fa} {b3 i : Nat} {wr : World} {A : Option Addr} {c : Nat} {ns : List (List UInt8)} {sv : Value} {ls : List (List (List UInt8))} {v' : Value} {out' : List Fa} (h : ChSt p B Y t w v out b3 i wr A c ns sv ls v' out') (hi : i ≤ 16) (hY : Y t) : ChRes p B Y t w v out (.returned (.slice A ns.length c)) wr :=
  ⟨A, c, ns, v', out', rfl, h.T.more bl (fun b hb => .inl (.inl hb)) (fun b hb => h.T.Yl b (.inl hb)) hY, h.X, h.nm.chg (F := fun _ => False) (Chg.refl _ _) (fun _ h => h.elim) (fun b hb => .inl (hb.elim .inl (fun e => .inr (.inl e)))), by have := h.ol; omega, h.good⟩
end Go.Proofs.Ytimkdpkhdbiniaa
