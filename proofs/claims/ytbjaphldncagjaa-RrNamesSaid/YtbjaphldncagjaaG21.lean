/- Parts of a proof, joined: SetPlain, Law05O. -/
import Derived.Test.YtbjaphldncagjaaG19
import Derived.Test.YtbjaphldncagjaaG17
/- Which data a set holds, and its least TTL: not the order of the records. No program in it. -/
namespace Go.Proofs.Ytbjaphldncagjaa
set_option maxRecDepth 100000

theorem sameD_trans {x y z : Da} (h : sameD x y = true) (k : sameD y z = true) : sameD x z = true := by
  rw [sameD_iff] at h k ⊢
  exact ⟨h.1.trans k.1, h.2.1.trans k.2.1, h.2.2.1.trans k.2.2.1, h.2.2.2.1.trans k.2.2.2.1, h.2.2.2.2.trans k.2.2.2.2⟩
theorem inD_iff {l : List Da} {d : Da} : inD l d = true ↔ ∃ x, x ∈ l ∧ sameD x d = true := by unfold inD; rw [List.any_eq_true]
/-- No two say the same. -/
def NoS (l : List Da) : Prop := l.Pairwise fun x y => sameD x y = false
theorem noS_len : ∀ {a b : List Da}, NoS a → (∀ x, x ∈ a → ∃ y, y ∈ b ∧ sameD x y = true) → a.length ≤ b.length
  | [], b, _, _ => Nat.zero_le _
  | x :: a, b, hn, h => by
    obtain ⟨y, hy, hxy⟩ := h x (List.mem_cons_self ..)
    obtain ⟨b1, b2, rfl⟩ := List.append_of_mem hy
    have hn' := List.pairwise_cons.1 hn
    have := noS_len (a := a) (b := b1 ++ b2) hn'.2 fun z hz => by
      obtain ⟨u, hu, hzu⟩ := h z (List.mem_cons_of_mem _ hz)
      rcases List.mem_append.1 hu with h1 | h1
      · exact ⟨u, List.mem_append_left _ h1, hzu⟩
      · rcases List.mem_cons.1 h1 with h2 | h2
        · subst h2
          have h3 := sameD_trans hxy (by rw [sameD_comm]; exact hzu)
          rw [hn'.1 z hz] at h3
          cases h3
        · exact ⟨u, List.mem_append_right _ h2, hzu⟩
    simp only [List.length_append, List.length_cons] at this ⊢
    omega
/-- What a set is. -/
structure SetOk (l : List RR) (n : List (List UInt8)) (k : Int) (p : List Da × Int) : Prop where
  all : ∀ r, r ∈ l → isR n k r = true → inD p.1 r.data = true
  only : ∀ d, d ∈ p.1 → ∃ r, r ∈ l ∧ isR n k r = true ∧ r.data = d
  none : NoS p.1
  zero : p.1 = [] → p.2 = 0
  least : p.1 ≠ [] → (∀ r, r ∈ l → isR n k r = true → p.2 ≤ r.ttl) ∧ ∃ r, r ∈ l ∧ isR n k r = true ∧ r.ttl = p.2
theorem SetOk.step {l : List RR} {n : List (List UInt8)} {k : Int} {p : List Da × Int} (h : SetOk l n k p) (r : RR) : SetOk (l ++ [r]) n k (stepS n k p r) := by
  cases hr : isR n k r with
  | false =>
    rw [stepS_no hr]
    have hm : ∀ x, x ∈ l ++ [r] → isR n k x = true → x ∈ l := fun x hx hi => by
      rcases List.mem_append.1 hx with h1 | h1
      · exact h1
      · rw [List.mem_singleton.1 h1, hr] at hi; cases hi
    refine ⟨fun x hx hi => h.all x (hm x hx hi) hi, fun d hd => ?_, h.none, h.zero, fun hne => ⟨fun x hx hi => (h.least hne).1 x (hm x hx hi) hi, ?_⟩⟩
    · obtain ⟨x, hx, hi, he⟩ := h.only d hd
      exact ⟨x, List.mem_append_left _ hx, hi, he⟩
    · obtain ⟨x, hx, hi, he⟩ := (h.least hne).2
      exact ⟨x, List.mem_append_left _ hx, hi, he⟩
  | true =>
    have hml : r ∈ l ++ [r] := List.mem_append_right _ (List.mem_singleton.2 rfl)
    have hl : ∀ t : Int, t = (if p.1 = [] ∨ r.ttl < p.2 then r.ttl else p.2) → (∀ x, x ∈ l ++ [r] → isR n k x = true → t ≤ x.ttl) ∧ ∃ x, x ∈ l ++ [r] ∧ isR n k x = true ∧ x.ttl = t := by
      rintro t rfl
      by_cases he : p.1 = []
      · rw [if_pos (Or.inl he)]
        refine ⟨fun x hx hi => ?_, r, hml, hr, rfl⟩
        rcases List.mem_append.1 hx with h1 | h1
        · have h2 := h.all x h1 hi
          rw [he] at h2
          cases h2
        · rw [List.mem_singleton.1 h1]; exact Int.le_refl _
      · by_cases ht : r.ttl < p.2
        · rw [if_pos (Or.inr ht)]
          refine ⟨fun x hx hi => ?_, r, hml, hr, rfl⟩
          rcases List.mem_append.1 hx with h1 | h1
          · have := (h.least he).1 x h1 hi
            omega
          · rw [List.mem_singleton.1 h1]; exact Int.le_refl _
        · rw [if_neg (fun h => h.elim he ht)]
          obtain ⟨h1, x, hx, hi, he⟩ := h.least he
          refine ⟨fun y hy hj => ?_, x, List.mem_append_left _ hx, hi, he⟩
          rcases List.mem_append.1 hy with h2 | h2
          · exact h1 y h2 hj
          · rw [List.mem_singleton.1 h2]; omega
    rw [stepS_yes hr]
    cases hin : inD p.1 r.data with
    | true =>
      rw [if_pos rfl]
      refine ⟨fun x hx hi => ?_, fun d hd => ?_, h.none, fun he => ?_, fun _ => hl _ rfl⟩
      · rcases List.mem_append.1 hx with h1 | h1
        · exact h.all x h1 hi
        · rw [List.mem_singleton.1 h1]; exact hin
      · obtain ⟨x, hx, hi, he⟩ := h.only d hd
        exact ⟨x, List.mem_append_left _ hx, hi, he⟩
      · have he' : p.1 = [] := he
        rw [he'] at hin
        cases hin
    | false =>
      rw [if_neg (by decide)]
      refine ⟨fun x hx hi => ?_, fun d hd => ?_, ?_, fun he => ?_, fun _ => hl _ rfl⟩
      · show inD (p.1 ++ [r.data]) x.data = true
        rw [inD_iff]
        rcases List.mem_append.1 hx with h1 | h1
        · obtain ⟨y, hy, hs⟩ := inD_iff.1 (h.all x h1 hi)
          exact ⟨y, List.mem_append_left _ hy, hs⟩
        · rw [List.mem_singleton.1 h1]
          exact ⟨r.data, List.mem_append_right _ (List.mem_singleton.2 rfl), sameD_true rfl rfl rfl rfl rfl⟩
      · rcases List.mem_append.1 (show d ∈ p.1 ++ [r.data] from hd) with h1 | h1
        · obtain ⟨x, hx, hi, he⟩ := h.only d h1
          exact ⟨x, List.mem_append_left _ hx, hi, he⟩
        · exact ⟨r, hml, hr, (List.mem_singleton.1 h1).symm⟩
      · show NoS (p.1 ++ [r.data])
        refine List.pairwise_append.2 ⟨h.none, List.pairwise_singleton _ _, fun x hx y hy => ?_⟩
        rw [List.mem_singleton.1 hy]
        cases hs : sameD x r.data with
        | false => rfl
        | true => rw [inD_iff.2 ⟨x, hx, hs⟩] at hin; cases hin
      · have he' : p.1 ++ [r.data] = [] := he
        simp at he'
theorem setP_ok (l : List RR) (n : List (List UInt8)) (k : Int) : SetOk l n k (setP l n k) := by
  refine snoc_ind (P := fun l => SetOk l n k (setP l n k)) ?_ (fun l r ih => ?_) l
  · exact ⟨fun r hr => absurd hr List.not_mem_nil, fun d hd => absurd hd List.not_mem_nil, List.Pairwise.nil, fun _ => rfl, fun h => absurd rfl h⟩
  · have e : setP (l ++ [r]) n k = stepS n k (setP l n k) r := by unfold setP; rw [List.foldl_append]; rfl
    rw [e]
    exact ih.step r
theorem SetOk.sub {l l' : List RR} {n : List (List UInt8)} {k : Int} {p q : List Da × Int} (h : SetOk l n k p) (h' : SetOk l' n k q) (hm : ∀ r, r ∈ l → r ∈ l') : ∀ x, x ∈ p.1 → ∃ y, y ∈ q.1 ∧ sameD x y = true := by
  intro x hx
  obtain ⟨r, hr, hi, rfl⟩ := h.only x hx
  obtain ⟨y, hy, hs⟩ := inD_iff.1 (h'.all r (hm r hr) hi)
  exact ⟨y, hy, by rw [sameD_comm]; exact hs⟩
theorem subD_of {a b : List Da} (h : ∀ x, x ∈ a → ∃ y, y ∈ b ∧ sameD x y = true) : subD a b = true := by
  unfold subD
  rw [List.all_eq_true]
  intro x hx
  rw [List.any_eq_true]
  exact h x hx
theorem setP_turn {l l' : List RR} (n : List (List UInt8)) (k : Int) (hm : ∀ r, r ∈ l ↔ r ∈ l') :
    sameS (setP l n k).1 (setP l' n k).1 = true ∧ (setP l n k).1.length = (setP l' n k).1.length ∧ (setP l n k).2 = (setP l' n k).2 := by
  have h := setP_ok l n k
  have h' := setP_ok l' n k
  have s := h.sub h' fun r hr => (hm r).1 hr
  have s' := h'.sub h fun r hr => (hm r).2 hr
  have e : (setP l n k).1.length = (setP l' n k).1.length := Nat.le_antisymm (noS_len h.none s) (noS_len h'.none s')
  refine ⟨by unfold sameS; rw [subD_of s, subD_of s']; rfl, e, ?_⟩
  by_cases h0 : (setP l n k).1 = []
  · have h1 : (setP l' n k).1 = [] := by
      rw [h0] at e
      exact List.eq_nil_of_length_eq_zero e.symm
    rw [h.zero h0, h'.zero h1]
  · have h1 : (setP l' n k).1 ≠ [] := fun h1 => by
      rw [h1] at e
      exact h0 (List.eq_nil_of_length_eq_zero e)
    obtain ⟨a1, r1, m1, i1, e1⟩ := h.least h0
    obtain ⟨a2, r2, m2, i2, e2⟩ := h'.least h1
    have b1 := a1 r2 ((hm r2).2 m2) i2
    have b2 := a2 r1 ((hm r1).1 m1) i1
    omega
end Go.Proofs.Ytbjaphldncagjaa

/- RrOrder: the law's walk. -/
namespace Go.Proofs.Ytbjaphldncagjaa
open Go.RowKit
set_option maxRecDepth 100000

theorem own_push {w wr : World} {v : Value} {l : List RR} {r : RR} (h : OwnE encRR 48 (orS (ltS w) (ltS w)) wr w.heap.size v (l ++ [r])) : OwnE encRR 48 (ltS w) wr w.heap.size v (l ++ [r]) := by
  have hS : orS (ltS w) (ltS w) = ltS w := by funext b; simp [orS]
  rwa [hS] at h
theorem own_none {w wr : World} (hb : Below w.heap.size w wr) : OwnE encRR 48 (ltS w) wr w.heap.size (.slice none 0 0) [] := ⟨[], World.ownsRow_nil _ _ _ _, fun i x h => by simp at h, fun b (hl : b < w.heap.size) => ⟨Nat.lt_of_lt_of_le hl hb.size, by simp [Value.ownBlock]⟩⟩
theorem drop_back {xs : List RR} {k : Nat} {r : RR} (h : xs[k]? = some r) : (xs.drop (k + 1)).reverse ++ [r] = (xs.drop k).reverse := by
  obtain ⟨hk, e⟩ := List.getElem?_eq_some_iff.1 h
  rw [List.drop_eq_getElem_cons hk, List.reverse_cons, e]
theorem turn_mem {xs : List RR} {k : Nat} {r0 : RR} (h : xs[k]? = some r0) (r : RR) : r ∈ xs ↔ r ∈ xs.reverse ++ [r0] := by
  rw [List.mem_append, List.mem_reverse, List.mem_singleton]
  exact ⟨fun h => .inl h, fun h1 => h1.elim id fun e => by rw [e]; exact List.mem_of_getElem? h⟩
set_option maxHeartbeats 8000000 in
theorem rrOrder_ok (A : Option Addr) (c : Nat) (xs : List RR) (t : Nat) (ht : t < 256) (w : World) (h : RdE encRR w A xs.length xs) (hl : LtL xs) (h0 : 0 < xs.length) :
    Calls Try.prog 9 #[.slice A xs.length c, .int .u8 (t : Int)] w (LawT w) := by
  have H := Lib.hid h
  have HL := Lib.hid hl
  have HLD := Lib.hid (decide_eq_true hl)
  have hx60 := hl.2
  have hne : ¬ (xs.length : Int) = 0 := by omega
  have hne3 : ((xs.length : Int) == 0) = false := by rw [beq_eq_false_iff_ne]; exact hne
  obtain ⟨kk, hkk⟩ : ∃ kk, kk = t % xs.length := ⟨_, rfl⟩
  have hmod : (t : Int).tmod (xs.length : Int) = (kk : Int) := by rw [Int.tmod_eq_emod_of_nonneg (by omega), hkk]; rfl
  have hkl : kk < xs.length := by rw [hkk]; exact Nat.mod_lt _ h0
  clear h hl hkk
  have hwt : IntKind.i64.wrap (t : Int) = (t : Int) := by rw [IntKind.wrap_i64]; omega
  have hwk : IntKind.i64.wrap (kk : Int) = (kk : Int) := by rw [IntKind.wrap_i64]; omega
  go_enter Try.func9, Try.ntmps9
  go_upto_region 4 with (first
    | (go_at_call 36; refine (light05_any A _ c xs w2 (H.out.below hb2) (by unfold maxLen; omega)).mono ?_; rw [HLD.out]; rintro e w3 ⟨v3, rfl, rfl, hb3⟩)
    | (go_at_call 35; refine (answers05_any w).mono ?_; rintro e w2 ⟨rfl, hb2⟩)
    | fail)
  have HB3 := Lib.hid (nx hb2 hb3)
  clear hwt hmod hb2 hb3
  go_wp2_with fail
  clear hwk
  go_loopw [6, 7] (fun v iv wr => ∃ k : Nat, iv = .int .i64 ((k : Int) - 1) ∧ k ≤ xs.length ∧ Hid (OwnE encRR 48 (ltS w) wr w.heap.size v (xs.drop k).reverse) ∧ Hid (Below w.heap.size w wr)) (fun _ iv _ => (intOf iv + 1).toNat)
  case atStart => exact ⟨xs.length, by go_num, Nat.le_refl _, by show OwnE _ _ _ _ _ _ _; rw [List.drop_length]; exact own_none HB3.out, HB3.out⟩
  case round =>
    obtain ⟨z, rfl, hz, HOWN, HBW⟩ := hrel
    clear HB3
    cases z with
    | succ k =>
      rw [show ((k + 1 : Nat) : Int) - 1 = (k : Int) by omega]
      have hlt : k < xs.length := by omega
      obtain ⟨r, hr⟩ : ∃ r, xs[k]? = some r := ⟨_, List.getElem?_eq_getElem hlt⟩
      obtain ⟨b, off, s, hA, hb0, hri, hrc⟩ := rr_at H.out hr
      have HE := Lib.hid (drop_back hr)
      have HOWN' := HOWN
      have hlen : ((xs.drop (k + 1)).reverse).length ≤ 60 := by rw [List.length_reverse, List.length_drop]; omega
      have HLEN := Lib.hid hlen
      have HRI : Hid (RIn (ltS w) wr s r) := hri.below HBW.out (fun b hb => hb)
      have hAA := Lib.hid hA
      obtain ⟨d0, d1, d2, d3, d4, d5, d6, d7, d8⟩ := hrc.below HBW.out
      rw [hA]
      have hrow : encRR.R (ltS w) wr [.slice s.A r.name.length s.c, .int .i64 r.type, .int .i64 r.cls, .int .i64 r.ttl, .slice s.d.A0 r.data.bytes.length s.d.c0, .slice s.d.A1 r.data.host.length s.d.c1, .slice s.d.A2 r.data.mail.length s.d.c2, .slice s.d.A3 r.data.nums.length s.d.c3, .slice s.d.A4 r.data.texts.length s.d.c4] r := ⟨s, rfl, HRI.out⟩
      have HROW := Lib.hid hrow
      clear hrow hr hb0 hri hrc hA HOWN hlen
      generalize (xs.drop (k + 1)).reverse = l at HE HOWN' HLEN
      go_wp2_with (first
        | ((with_reducible show wpList _ _ _ (⟨some 43, _, _, _, _, _⟩ :: _) _ _); refine wpL_pushE elRR rfl (.tmp 37) (.tmp 42) rfl w.heap.size u6 l rfl HOWN'.out _ r HROW.out ?hS rfl ?hb ?hl ?hbase ?_; rotate_right; intro v5 w5 hown5 hg5 hat5)
        | fail)
      · go_roundw
        case rel => exact ⟨k, by go_num, by omega, by show OwnE _ _ _ _ _ _ _; rw [← HE.out]; exact own_push hown5, HBW.out.grown hg5 HBW.out.size (fun j hj => (HOWN'.out.lt j hj).1)⟩
        case measure => simp [intOf]
      case hS =>
        intro b hb
        refine ⟨Nat.lt_of_lt_of_le hb HBW.out.size, fun he => ?_⟩
        have h1 := (HOWN'.out.lt b he.symm).1
        have h2 : b < w.heap.size := hb
        omega
      case hb => have := HLEN.out; omega
      case hl => have := HLEN.out; unfold maxLen; omega
      case hbase => exact HBW.out.size
    | zero =>
      rw [show ((0 : Nat) : Int) - 1 = -1 by omega]
      obtain ⟨r, hr⟩ : ∃ r, xs[kk]? = some r := ⟨_, List.getElem?_eq_getElem hkl⟩
      obtain ⟨b, off, s, hA, hb0, hri, hrc⟩ := rr_at H.out hr
      have HOWN' : Hid (OwnE encRR 48 (ltS w) wr w.heap.size u6 xs.reverse) := HOWN
      have HTM := Lib.hid (turn_mem hr)
      have HLEN : Hid (xs.reverse.length ≤ 60) := by show _ ≤ _; rw [List.length_reverse]; exact hx60
      have HTL : Hid ((xs.reverse ++ [r]).length ≤ 61) := by show _ ≤ _; rw [List.length_append, List.length_reverse, List.length_singleton]; omega
      have HTU := Lib.hid (setP_turn r.name r.type HTM.out)
      have HLT : Hid (∀ x, x ∈ xs.reverse ++ [r] → Light9 x) := fun x hx => (HL.out.1 x ((HTM.out x).2 hx)).light9
      have HRI : Hid (RIn (ltS w) wr s r) := hri.below HBW.out (fun b hb => hb)
      have HLR := Lib.hid (HL.out.1 r (List.mem_of_getElem? hr))
      have HRC := Lib.hid hrc
      have hAA := Lib.hid hA
      obtain ⟨d0, d1, d2, d3, d4, d5, d6, d7, d8⟩ := hrc.below HBW.out
      rw [hA]
      have hrow : encRR.R (ltS w) wr [.slice s.A r.name.length s.c, .int .i64 r.type, .int .i64 r.cls, .int .i64 r.ttl, .slice s.d.A0 r.data.bytes.length s.d.c0, .slice s.d.A1 r.data.host.length s.d.c1, .slice s.d.A2 r.data.mail.length s.d.c2, .slice s.d.A3 r.data.nums.length s.d.c3, .slice s.d.A4 r.data.texts.length s.d.c4] r := ⟨s, rfl, HRI.out⟩
      have HROW := Lib.hid hrow
      have HRN : Hid (Els encS (ltS w) (ltS w) w s.A r.name.length r.name ∧ r.name.length ≤ maxLen) := ⟨hri.n, Nat.le_trans hri.cn.1 hri.cn.2⟩
      clear hrow hr hb0 hri hrc hA HOWN hz
      generalize xs.reverse = l at HTU HLT HTL HOWN' HLEN HTM ⊢
      go_upto_region 10 with (first
        | ((with_reducible show wpList _ _ _ (⟨some 50, _, _, _, _, _⟩ :: _) _ _); refine wpL_pushE elRR rfl (.tmp 44) (.tmp 49) rfl w.heap.size u6 l rfl HOWN'.out _ r HROW.out ?hS rfl ?hb ?hl ?hbase ?_; rotate_right; intro v5 w5 hown5 hg5 hat5; have HB5 := Lib.hid (HBW.out.grown hg5 HBW.out.size (fun j hj => (HOWN'.out.lt j hj).1)); obtain ⟨A5, c5, hv5, hr5, _, _⟩ := OwnE.rdE hown5; obtain ⟨n5, hn5⟩ : ∃ n5, n5 = (l ++ [r]).length := ⟨_, rfl⟩; rw [← hn5] at hv5 hr5; subst hv5; have HN5 : Hid (n5 ≤ 61) := (by rw [hn5]; exact HTL.out); clear hn5; have HR5 := Lib.hid hr5; clear hr5 hown5 hg5 hat5)
        | fail)
      case hS =>
        intro b hb
        refine ⟨Nat.lt_of_lt_of_le hb HBW.out.size, fun he => ?_⟩
        have h1 := (HOWN'.out.lt b he.symm).1
        have h2 : b < w.heap.size := hb
        omega
      case hb => have := HLEN.out; omega
      case hl => have := HLEN.out; unfold maxLen; omega
      case hbase => exact HBW.out.size
      clear HROW HRI HOWN' HLEN HTM HBW d0 d1 d2 d3 d4 d5 d6 d7 d8
      generalize l ++ [r] = T at HTU HLT HTL HR5 ⊢
      have z0 := And.intro (HRC.out.below HB5.out).1 (HRC.out.below HB5.out).2.1
      have z1 := And.intro (HRC.out.below (nx HB5.out bl.drew)).1 (HRC.out.below (nx HB5.out bl.drew)).2.1
      go_region_held3 (fun w' => w'.cell? ⟨b, off + kk * 9, none⟩ = some (.slice s.A r.name.length s.c) ∧ w'.cell? ⟨b, off + kk * 9 + 1, none⟩ = some (.int .i64 r.type))
        (first
          | with_reducible exact z0
          | with_reducible exact z1
          | with_reducible exact z2
          | with_reducible exact z3
          | fail)
        (first
          | (go_at_call 37; refine (pset_any A6 s.A xs.length c6 r.name.length s.c xs r.name r.type w6 HR6.out (RdE.below HRN.out.1 HB6.out) (by omega) HRN.out.2 (fun r hr => (HL.out.1 r hr).light9)).mono ?_; rintro e w7 ⟨v7, rfl, ⟨sv7, rfl, hs7⟩, hb7⟩; obtain ⟨B7, k7, rfl, hr7, _, _⟩ := hs7.rdE; have HR7 := Lib.hid hr7; have HB7 := Lib.hid (nx HB6.out hb7); have z3 := And.intro (HRC.out.below HB7.out).1 (HRC.out.below HB7.out).2.1; clear hs7 hr7)
          | (go_at_call 38; refine (ownRRs_any _ _ c xs w5.drew ((hAA.out ▸ H.out).below (nx HB5.out bl.drew)) (by omega) (fun r hr => (HL.out.1 r hr).light9)).mono ?_; rintro e w6 ⟨v6, rfl, ho6, hb6⟩; obtain ⟨A6, c6, rfl, hr6, _, _⟩ := NewE.rdE ho6; have HR6 := Lib.hid hr6; have HB6 := Lib.hid (nx (nx HB5.out bl.drew) hb6); have z2 := And.intro (HRC.out.below HB6.out).1 (HRC.out.below HB6.out).2.1; clear ho6 hr6)
          | fail)
      clear z0 z1 z2 z3
      have HR5' := Lib.hid ((HR5.out.below bl.drew).below (nx hb6 hb7))
      have hpl := setP_len xs r.name r.type
      have HPL : Hid ((setP xs r.name r.type).1.length ≤ 60) := by show _ ≤ _; omega
      clear hpl
      generalize setP xs r.name r.type = P at HR7 HTU HPL ⊢
      obtain ⟨p1, p2⟩ := P
      go_upto_region 11 with (fail)
      have z0 := And.intro (HRC.out.below HB7.out).1 (HRC.out.below HB7.out).2.1
      have z1 := And.intro (HRC.out.below (nx HB7.out bl.drew)).1 (HRC.out.below (nx HB7.out bl.drew)).2.1
      go_region_held3 (fun w' => w'.cell? ⟨b, off + kk * 9, none⟩ = some (.slice s.A r.name.length s.c) ∧ w'.cell? ⟨b, off + kk * 9 + 1, none⟩ = some (.int .i64 r.type))
        (first
          | with_reducible exact z0
          | with_reducible exact z1
          | with_reducible exact z2
          | with_reducible exact z3
          | fail)
        (first
          | (go_at_call 37; refine (pset_any A8 s.A T.length c8 r.name.length s.c T r.name r.type w8 HR8.out (RdE.below HRN.out.1 HB8.out) (by have := HTL.out; omega) HRN.out.2 HLT.out).mono ?_; rintro e w9 ⟨v9, rfl, ⟨sv9, rfl, hs9⟩, hb9⟩; obtain ⟨B9, k9, rfl, hr9, _, _⟩ := hs9.rdE; rw [← HTU.out.2.1] at hr9; rw [← HTU.out.2.1, ← HTU.out.2.2]; have HR9 := Lib.hid hr9; have HB9 := Lib.hid (nx HB8.out hb9); have z3 := And.intro (HRC.out.below HB9.out).1 (HRC.out.below HB9.out).2.1; clear hs9 hr9)
          | (go_at_call 38; refine (ownRRs_any A5 n5 c5 T w7.drew (HR5'.out.below bl.drew) (by have := HN5.out; omega) HLT.out).mono ?_; rintro e w8 ⟨v8, rfl, ho8, hb8⟩; obtain ⟨A8, c8, rfl, hr8, _, _⟩ := NewE.rdE ho8; have HR8 := Lib.hid hr8; have HB8 := Lib.hid (nx (nx HB7.out bl.drew) hb8); have z2 := And.intro (HRC.out.below HB8.out).1 (HRC.out.below HB8.out).2.1; clear ho8 hr8)
          | fail)
      clear z0 z1 z2 z3
      have HR7' := Lib.hid ((HR7.out.below bl.drew).below (nx hb8 hb9))
      have HSS := Lib.hid HTU.out.1
      clear HTU
      generalize (setP T r.name r.type).1 = q at HR9 HSS
      go_wp2_with (first
        | (go_at_call 41; refine (sameS_any B7 B9 _ k7 _ k9 p1 q w9 HR7'.out HR9.out (by have := HPL.out; omega) (by have := HPL.out; omega)).mono ?_; rw [HSS.out]; rintro e v1 ⟨u1, rfl, rfl, hv1⟩)
        | fail)
      go_ret
      exact ⟨rfl, nx HB9.out hv1⟩

set_option maxHeartbeats 2000000 in
theorem rrOrder_heavy (A : Option Addr) (c : Nat) (xs : List RR) (v1 : Value) (w : World) (h : RdE encRR w A xs.length xs) (hm : xs.length ≤ maxLen) (hl : ¬ LtL xs) :
    Calls Try.prog 9 #[.slice A xs.length c, v1] w (LawT w) := by
  have H := Lib.hid h
  have HLD := Lib.hid (decide_eq_false hl)
  clear h hl
  go_enter Try.func9, Try.ntmps9
  go_wp2_with (first
    | (go_at_call 35; refine (answers05_any w3).mono ?_; rintro e w4 ⟨rfl, hb4⟩)
    | (go_at_call 36; refine (light05_any A _ c xs w2 (H.out.below hb2) hm).mono ?_; rw [HLD.out]; rintro e w3 ⟨v3, rfl, rfl, hb3⟩)
    | (go_at_call 35; refine (answers05_any w).mono ?_; rintro e w2 ⟨rfl, hb2⟩)
    | fail)
  go_ret
  exact ⟨rfl, nx (nx hb2 hb3) hb4⟩
set_option maxHeartbeats 2000000 in
theorem rrOrder_none (A : Option Addr) (c : Nat) (v1 : Value) (w : World) (h : RdE encRR w A 0 []) :
    Calls Try.prog 9 #[.slice A 0 c, v1] w (LawT w) := by
  have H := Lib.hid h
  have HLD : Hid (decide (LtL []) = true) := decide_eq_true ⟨fun r hr => absurd hr List.not_mem_nil, Nat.zero_le _⟩
  clear h
  go_enter Try.func9, Try.ntmps9
  go_wp2_with (first
    | (go_at_call 35; refine (answers05_any w3).mono ?_; rintro e w4 ⟨rfl, hb4⟩)
    | (go_at_call 36; refine (light05_any A _ c [] w2 (H.out.below hb2) (Nat.zero_le _)).mono ?_; rw [HLD.out]; rintro e w3 ⟨v3, rfl, rfl, hb3⟩)
    | (go_at_call 35; refine (answers05_any w).mono ?_; rintro e w2 ⟨rfl, hb2⟩)
    | fail)
  go_ret
  exact ⟨rfl, nx (nx hb2 hb3) hb4⟩
theorem rrOrder_walk (A : Option Addr) (n c : Nat) (xs : List RR) (t : Nat) (ht : t < 256) (w : World) (h : RdE encRR w A n xs) (hc : n ≤ c) (hm : c ≤ maxLen) :
    Calls Try.prog 9 #[.slice A n c, .int .u8 (t : Int)] w (LawT w) := by
  have hl := h.len
  subst hl
  by_cases h0 : LtL xs
  · by_cases h1 : 0 < xs.length
    · exact rrOrder_ok A c xs t ht w h h0 h1
    · obtain rfl : xs = [] := List.eq_nil_of_length_eq_zero (by omega)
      exact rrOrder_none A c _ w h
  · exact rrOrder_heavy A c xs _ w h (Nat.le_trans hc hm) h0
end Go.Proofs.Ytbjaphldncagjaa
