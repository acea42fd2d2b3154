/- super: two places for one block, in plain Lean. No program in it. -/
import Derived.Test.YtbjaphldncagjaaSOpenPlain
import Derived.Test.YtbjaphldncagjaaFlashPlain
namespace Go.Proofs.Ytbjaphldncagjaa

/-- A block. -/
structure Blk where
  gen : Int
  epoch : Int
  first : Int
  from_ : Int
  count : Int
def Blk.zero : Blk := ⟨0, 0, 0, 0, 0⟩
def Blk.nums (b : Blk) : List Int := [b.gen, b.epoch, b.first, b.from_, b.count]
def Blk.fits (b : Blk) : Prop := ∀ n ∈ b.nums, fitsB n 7 = true
/-- The first k numbers, as bytes. -/
def dataTo (l : List Int) : Nat → List UInt8
  | 0 => []
  | k + 1 => putB (dataTo l k) (l.getD k 0) 7
def Blk.data (b : Blk) : List UInt8 := dataTo b.nums 5
def Blk.raw (b : Blk) : List UInt8 := (sealP 1 0 0 0 1 b.data).1

theorem putB_fit {n : Int} (bs : List UInt8) (h : fitsB n 7 = true) : putB bs n 7 = bs ++ be n.toNat 7 := by
  unfold putB
  rw [if_pos h]
  rfl
theorem Blk.data_eq {b : Blk} (h : b.fits) : b.data = be b.gen.toNat 7 ++ be b.epoch.toNat 7 ++ be b.first.toNat 7 ++ be b.from_.toNat 7 ++ be b.count.toNat 7 := by
  have f : ∀ n ∈ b.nums, fitsB n 7 = true := h
  unfold Blk.nums at f
  unfold Blk.data
  simp only [dataTo, Blk.nums, List.getD_cons_zero, List.getD_cons_succ]
  rw [putB_fit _ (f b.gen (by simp)), putB_fit _ (f b.epoch (by simp)), putB_fit _ (f b.first (by simp)), putB_fit _ (f b.from_ (by simp)), putB_fit _ (f b.count (by simp))]
  rfl
theorem Blk.data_len {b : Blk} (h : b.fits) : b.data.length = 35 := by
  rw [b.data_eq h]
  simp only [List.length_append, length_be]
theorem val_fit {n : Int} (h : fitsB n 7 = true) : (val (be n.toNat 7) : Int) = n := by
  have h' := fitsB_true h
  have e : (256 : Int) ^ (7 : Int).toNat = ((256 ^ 7 : Nat) : Int) := by decide
  rw [e] at h'
  rw [val_be _ _ (by omega)]
  omega
theorem get_mid (a x c : List UInt8) (k : Nat) (h1 : a.length = 7 * k) (h2 : x.length = 7) : getN (a ++ x ++ c) ((k : Int) * 7) 7 = ((val x : Int), 0) := by
  have hl : (a ++ x ++ c).length = 7 * k + 7 + c.length := by simp only [List.length_append]; omega
  have h := get_fld (b := a ++ x ++ c) (7 * k) 7 (by omega) (by omega) (by omega)
  have e : fld (a ++ x ++ c) (7 * k) 7 = val x := by rw [← h1, ← h2]; exact fld_mid a x c
  rw [e] at h
  rw [← h]
  congr 1
  omega
theorem Blk.get {b : Blk} (h : b.fits) {k : Nat} {n : Int} (hk : b.nums[k]? = some n) : getN b.data ((k : Int) * 7) 7 = (n, 0) := by
  have f : ∀ n ∈ b.nums, fitsB n 7 = true := h
  rw [← val_fit (f n (List.mem_of_getElem? hk)), b.data_eq h]
  have l5 : ∀ n : Int, (be n.toNat 7).length = 7 := fun n => length_be _ _
  rcases k with _ | _ | _ | _ | _ | k
  · injection hk with hk; subst hk
    have := get_mid [] (be b.gen.toNat 7) (be b.epoch.toNat 7 ++ be b.first.toNat 7 ++ be b.from_.toNat 7 ++ be b.count.toNat 7) 0 rfl (l5 _)
    simpa only [List.append_assoc, List.nil_append] using this
  · injection hk with hk; subst hk
    have := get_mid (be b.gen.toNat 7) (be b.epoch.toNat 7) (be b.first.toNat 7 ++ be b.from_.toNat 7 ++ be b.count.toNat 7) 1 (l5 _) (l5 _)
    simpa only [List.append_assoc] using this
  · injection hk with hk; subst hk
    have := get_mid (be b.gen.toNat 7 ++ be b.epoch.toNat 7) (be b.first.toNat 7) (be b.from_.toNat 7 ++ be b.count.toNat 7) 2 (by simp only [List.length_append, l5]) (l5 _)
    simpa only [List.append_assoc] using this
  · injection hk with hk; subst hk
    have := get_mid (be b.gen.toNat 7 ++ be b.epoch.toNat 7 ++ be b.first.toNat 7) (be b.from_.toNat 7) (be b.count.toNat 7) 3 (by simp only [List.length_append, l5]) (l5 _)
    simpa only [List.append_assoc] using this
  · injection hk with hk; subst hk
    have := get_mid (be b.gen.toNat 7 ++ be b.epoch.toNat 7 ++ be b.first.toNat 7 ++ be b.from_.toNat 7) (be b.count.toNat 7) [] 4 (by simp only [List.length_append, l5]) (l5 _)
    simpa only [List.append_assoc, List.append_nil] using this
  · simp [Blk.nums] at hk
theorem fit_head (n : Int) : fitTo [1, 0, 0, 0, 1, n] 5 = true := by
  simp only [fitTo, sizesL, List.getD_cons_zero, List.getD_cons_succ]
  decide
theorem Blk.seal {b : Blk} (h : b.fits) : sealP 1 0 0 0 1 b.data = (b.raw, 0) := by
  have e : (sealP 1 0 0 0 1 b.data).2 = 0 := by
    rw [sealP_ok ⟨fit_head _, by decide, by decide, by decide⟩ (by rw [b.data_len h]; omega)]
  exact Prod.ext rfl e
theorem Blk.raw_len {b : Blk} (h : b.fits) : b.raw.length = 512 := by
  unfold Blk.raw
  rw [sealP_ok ⟨fit_head _, by decide, by decide, by decide⟩ (by rw [b.data_len h]; omega)]
  simp only [List.length_append, List.length_replicate]
  rw [hdTo_16 _ _ _ _ _ _ (fit_head _) (by omega) (by rw [b.data_len h]; omega), b.data_len h]
theorem Blk.open_ {b : Blk} (h : b.fits) : openP b.raw = ([1, 0, 0, 0, 1], b.data, 0) := by
  have := open_seal (k := 1) (e := 0) (s := 0) (p := 0) (q := 1) (data := b.data) (by rw [b.seal h])
  rwa [b.seal h] at this
theorem open_zero : openP zero512 = ([0, 0, 0, 0, 0], [], 14) := by
  refine openP_bad zero512_len fun h => h.2.1.1 ?_
  decide

/-- What a sector says: a block, or none. -/
def SecO (x : Option (List UInt8)) (o : Option Blk) : Prop := (o = none ∧ (x = none ∨ x = some zero512)) ∨ ∃ b, o = some b ∧ b.fits ∧ x = some b.raw
theorem SecO.none_ : SecO none none := .inl ⟨rfl, .inl rfl⟩
theorem SecO.zero_ : SecO (some zero512) none := .inl ⟨rfl, .inr rfl⟩
theorem SecO.blk {b : Blk} (h : b.fits) : SecO (some b.raw) (some b) := .inr ⟨b, rfl, h, rfl⟩

/-- A device whose first two sectors are a log's two places, all sure. -/
structure SupSt (d : Dv) (o0 o1 : Option Blk) : Prop where
  down : d.down = false
  unsure : d.unsure = []
  s0 : ∃ x, d.sure[0]? = some x ∧ SecO x o0
  s1 : ∃ x, d.sure[1]? = some x ∧ SecO x o1
  p0 : ∀ b, o0 = some b → b.gen % 2 = 0
  p1 : ∀ b, o1 = some b → b.gen % 2 = 1
theorem SupSt.new (n : Nat) (h : 2 ≤ n) : SupSt (Dv.new n) none none where
  down := rfl
  unsure := rfl
  s0 := ⟨some zero512, by unfold Dv.new; simp only; rw [List.getElem?_replicate, if_pos (by omega)], SecO.zero_⟩
  s1 := ⟨some zero512, by unfold Dv.new; simp only; rw [List.getElem?_replicate, if_pos (by omega)], SecO.zero_⟩
  p0 := fun b h => by cases h
  p1 := fun b h => by cases h

/-- The block that counts. -/
def bestO : Option Blk → Option Blk → Option Blk
  | none, o => o
  | some a, none => some a
  | some a, some b => if a.gen < b.gen then some b else some a
def loadO (o0 o1 : Option Blk) : Blk × Int := match bestO o0 o1 with
  | some b => (b, 0)
  | none => (Blk.zero, 11)
/-- What is in the places when one has been put. -/
def putO (o0 o1 : Option Blk) (p : Int) (x : Option Blk) : Option Blk × Option Blk := if p = 0 then (x, o1) else (o0, x)

/-- Save's work on the device. -/
def Dv.save (d : Dv) (b : Blk) : Dv × Int :=
  if d.sync.2 = 0 then
    if (d.sync.1.write (b.gen % 2) b.raw).2 = 0 then (d.sync.1.write (b.gen % 2) b.raw).1.sync else d.sync.1.write (b.gen % 2) b.raw
  else d.sync
theorem pad_full {bs : List UInt8} (h : bs.length = 512) : pad bs = bs := by
  unfold pad
  rw [h]
  simp

section
variable {d : Dv} {o0 o1 : Option Blk}
theorem SupSt.two (h : SupSt d o0 o1) : 2 ≤ d.sure.length := by
  obtain ⟨x, hx, _⟩ := h.s1
  have := (List.getElem?_eq_some_iff.1 hx).1
  omega
theorem SupSt.put (h : SupSt d o0 o1) {d' : Dv} {p : Int} {x : Option (List UInt8)} {o : Option Blk} (hp : p = 0 ∨ p = 1) (hd : d'.down = false) (hu : d'.unsure = []) (hs : d'.sure = d.sure.set p.toNat x) (hx : SecO x o) (hg : ∀ b, o = some b → b.gen % 2 = p) :
    SupSt d' (putO o0 o1 p o).1 (putO o0 o1 p o).2 := by
  have h2 := h.two
  rcases hp with rfl | rfl
  · refine ⟨hd, hu, ⟨x, ?_, hx⟩, ?_, hg, h.p1⟩
    · rw [hs]
      exact List.getElem?_set_self (by show 0 < _; omega)
    · obtain ⟨y, hy, hy2⟩ := h.s1
      refine ⟨y, ?_, hy2⟩
      rw [hs]
      simpa using hy
  · refine ⟨hd, hu, ?_, ⟨x, ?_, hx⟩, h.p0, hg⟩
    · obtain ⟨y, hy, hy2⟩ := h.s0
      refine ⟨y, ?_, hy2⟩
      rw [hs]
      simpa using hy
    · rw [hs]
      exact List.getElem?_set_self (by show 1 < _; omega)
theorem SupSt.same (h : SupSt d o0 o1) {d' : Dv} (hd : d'.down = false) (hu : d'.unsure = []) (hs : d'.sure = d.sure) : SupSt d' o0 o1 :=
  ⟨hd, hu, by rw [hs]; exact h.s0, by rw [hs]; exact h.s1, h.p0, h.p1⟩
theorem mod2 (n : Int) : n % 2 = 0 ∨ n % 2 = 1 := by omega
end

set_option linter.unusedSimpArgs false in
/-- Save, at each limit. -/
theorem save_at (sure : List (Option (List UInt8))) (k : Int) (b : Blk) (hb : b.fits) (h2 : 2 ≤ sure.length) :
    (k = 0 → Dv.save ⟨sure, [], k, false⟩ b = (⟨sure.set (b.gen % 2).toNat (some b.raw), [], 0, false⟩, 0)) ∧
    (k = 1 ∨ k = 2 → Dv.save ⟨sure, [], k, false⟩ b = (⟨sure, [], 0, true⟩, 8)) ∧
    (k = 3 → Dv.save ⟨sure, [], k, false⟩ b = (⟨sure, [(b.gen % 2, b.raw)], 0, true⟩, 8)) ∧
    (k = 4 → Dv.save ⟨sure, [], k, false⟩ b = (⟨sure.set (b.gen % 2).toNat (some b.raw), [], 1, false⟩, 0)) := by
  have hl := Blk.raw_len hb
  have hc : ¬ (b.gen % 2 < 0 ∨ (sure.length : Int) ≤ b.gen % 2) := by omega
  refine ⟨?_, ?_, ?_, ?_⟩
  · rintro rfl
    simp [Dv.save, Dv.sync, Dv.write, Dv.stays, Dv.spent, Dv.chk, syncL, doneL, hl, hc, pad_full hl]
  · rintro (rfl | rfl)
    · simp [Dv.save, Dv.sync, Dv.write, Dv.stays, Dv.spent, Dv.chk, syncL, doneL, hl, hc, pad_full hl]
    · simp [Dv.save, Dv.sync, Dv.write, Dv.stays, Dv.spent, Dv.chk, syncL, doneL, hl, hc, pad_full hl]
  · rintro rfl
    simp [Dv.save, Dv.sync, Dv.write, Dv.stays, Dv.spent, Dv.chk, syncL, doneL, hl, hc, pad_full hl]
  · rintro rfl
    simp [Dv.save, Dv.sync, Dv.write, Dv.stays, Dv.spent, Dv.chk, syncL, doneL, hl, hc, pad_full hl]
theorem SupSt.save_free {d : Dv} {o0 o1 : Option Blk} (h : SupSt d o0 o1) {b : Blk} (hb : b.fits) (hl : d.limit = 0) :
    (d.save b).2 = 0 ∧ (d.save b).1.limit = 0 ∧ SupSt (d.save b).1 (putO o0 o1 (b.gen % 2) (some b)).1 (putO o0 o1 (b.gen % 2) (some b)).2 := by
  have h2 := h.two
  have hd := h.down
  have hu := h.unsure
  obtain ⟨sure, unsure, limit, down⟩ := d
  simp only at hl h2 hd hu
  subst hl hd hu
  have e := (save_at sure 0 b hb h2).1 rfl
  rw [e]
  exact ⟨rfl, rfl, h.put (mod2 _) rfl rfl rfl (SecO.blk hb) (fun x hx => by injection hx with hx; rw [hx])⟩
/-- A Save that may be cut off, and a crash behind it. -/
theorem SupSt.save_crash {d : Dv} {o0 o1 : Option Blk} (h : SupSt d o0 o1) {b : Blk} (hb : b.fits) (h0 : 0 ≤ d.limit) (h4 : d.limit ≤ 4) (m t : Nat) :
    ((d.save b).1.crash m t).limit = 0 ∧
      (((d.save b).2 = 0 ∧ SupSt ((d.save b).1.crash m t) (putO o0 o1 (b.gen % 2) (some b)).1 (putO o0 o1 (b.gen % 2) (some b)).2) ∨
        ((d.save b).2 = 8 ∧ (SupSt ((d.save b).1.crash m t) o0 o1 ∨ SupSt ((d.save b).1.crash m t) (putO o0 o1 (b.gen % 2) (some b)).1 (putO o0 o1 (b.gen % 2) (some b)).2 ∨ SupSt ((d.save b).1.crash m t) (putO o0 o1 (b.gen % 2) none).1 (putO o0 o1 (b.gen % 2) none).2))) := by
  refine ⟨rfl, ?_⟩
  have h2 := h.two
  have hd := h.down
  have hu := h.unsure
  obtain ⟨sure, unsure, limit, down⟩ := d
  simp only at h0 h4 h2 hd hu
  subst hd hu
  obtain ⟨e0, e1, e3, e4⟩ := save_at sure limit b hb h2
  have hg : ∀ x, some b = some x → x.gen % 2 = b.gen % 2 := fun x hx => by injection hx with hx; rw [hx]
  by_cases k0 : limit = 0
  · rw [e0 k0]
    exact .inl ⟨rfl, h.put (mod2 _) rfl rfl rfl (SecO.blk hb) hg⟩
  by_cases k1 : limit = 1 ∨ limit = 2
  · rw [e1 k1]
    exact .inr ⟨rfl, .inl (h.same rfl rfl rfl)⟩
  by_cases k3 : limit = 3
  · rw [e3 k3]
    refine .inr ⟨rfl, ?_⟩
    by_cases ht : bitN t 0 = true
    · exact .inr (.inr (h.put (mod2 _) (x := none) rfl rfl (by simp [Dv.crash, crashL, ht, doneL]) SecO.none_ (fun x hx => by cases hx)))
    · by_cases hm : bitN m 0 = true
      · exact .inr (.inl (h.put (mod2 _) rfl rfl (by simp [Dv.crash, crashL, ht, hm, doneL]) (SecO.blk hb) hg))
      · exact .inl (h.same rfl rfl (by simp [Dv.crash, crashL, ht, hm]))
  · rw [e4 (by omega)]
    exact .inl ⟨rfl, h.put (mod2 _) rfl rfl rfl (SecO.blk hb) hg⟩

theorem bestO_le {o0 o1 : Option Blk} {a : Blk} (h : bestO o0 o1 = some a) : (∀ c, o0 = some c → c.gen ≤ a.gen) ∧ ∀ c, o1 = some c → c.gen ≤ a.gen := by
  cases o0 with
  | none =>
    simp only [bestO] at h
    refine ⟨fun c hc => (by cases hc), fun c hc => ?_⟩
    rw [h] at hc
    injection hc with hc
    rw [hc]
    exact Int.le_refl _
  | some x =>
    cases o1 with
    | none =>
      simp only [bestO] at h
      injection h with h
      refine ⟨fun c hc => (by injection hc with hc; rw [← hc, h]; exact Int.le_refl _), fun c hc => by cases hc⟩
    | some y =>
      simp only [bestO] at h
      split at h
      · injection h with h
        subst h
        refine ⟨fun c hc => (by injection hc with hc; subst hc; omega), fun c hc => (by injection hc with hc; subst hc; omega)⟩
      · injection h with h
        subst h
        refine ⟨fun c hc => (by injection hc with hc; subst hc; omega), fun c hc => (by injection hc with hc; subst hc; omega)⟩
theorem bestO_put {o0 o1 : Option Blk} {b : Blk} {p : Int} (hp : p = 0 ∨ p = 1) (h0 : ∀ c, o0 = some c → c.gen < b.gen) (h1 : ∀ c, o1 = some c → c.gen < b.gen) : bestO (putO o0 o1 p (some b)).1 (putO o0 o1 p (some b)).2 = some b := by
  rcases hp with rfl | rfl
  · simp only [putO, if_true]
    cases o1 with
    | none => rfl
    | some y =>
      have := h1 y rfl
      simp only [bestO]
      rw [if_neg (by omega)]
  · simp only [putO]
    rw [if_neg (by decide)]
    cases o0 with
    | none => rfl
    | some y =>
      have := h0 y rfl
      simp only [bestO]
      rw [if_pos this]
theorem bestO_drop {o0 o1 : Option Blk} {a : Blk} {p : Int} (hp : p = 0 ∨ p = 1) (h : bestO o0 o1 = some a) (p0 : ∀ b, o0 = some b → b.gen % 2 = 0) (p1 : ∀ b, o1 = some b → b.gen % 2 = 1) (hne : a.gen % 2 ≠ p) :
    bestO (putO o0 o1 p none).1 (putO o0 o1 p none).2 = some a := by
  have hmem : o0 = some a ∨ o1 = some a := by
    cases o0 with
    | none => exact .inr h
    | some x =>
      cases o1 with
      | none => exact .inl h
      | some y =>
        simp only [bestO] at h
        split at h
        · exact .inr h
        · exact .inl h
  rcases hp with rfl | rfl
  · rcases hmem with e | e
    · exact absurd (p0 a e) hne
    · simp only [putO, if_true, bestO]
      exact e
  · rcases hmem with e | e
    · simp only [putO]
      rw [if_neg (by decide), e]
      rfl
    · exact absurd (p1 a e) hne
/-- Where the log stands behind i blocks, the last of them a. -/
def LogSt (o0 o1 : Option Blk) (i : Nat) (a : Blk) : Prop := if i = 0 then o0 = none ∧ o1 = none ∧ a = Blk.zero else bestO o0 o1 = some a ∧ a.gen = (i : Int) - 1
theorem LogSt.none_ : LogSt none none 0 Blk.zero := by unfold LogSt; rw [if_pos rfl]; exact ⟨rfl, rfl, rfl⟩
theorem LogSt.put {o0 o1 : Option Blk} {i : Nat} {a b : Blk} (h : LogSt o0 o1 i a) (hb : b.gen = (i : Int)) : LogSt (putO o0 o1 (b.gen % 2) (some b)).1 (putO o0 o1 (b.gen % 2) (some b)).2 (i + 1) b := by
  unfold LogSt at h ⊢
  rw [if_neg (by omega)]
  refine ⟨?_, by omega⟩
  by_cases h0 : i = 0
  · rw [if_pos h0] at h
    obtain ⟨rfl, rfl, _⟩ := h
    exact bestO_put (mod2 _) (fun c hc => by cases hc) (fun c hc => by cases hc)
  · rw [if_neg h0] at h
    obtain ⟨e, g⟩ := h
    exact bestO_put (mod2 _) (fun c hc => by have := (bestO_le e).1 c hc; omega) (fun c hc => by have := (bestO_le e).2 c hc; omega)
/-- What Load says, and whether Save takes what is next. -/
def nextOk (o0 o1 : Option Blk) (b : Blk) : Prop := match bestO o0 o1 with
  | some a => b.gen = a.gen + 1
  | none => b.gen = 0
theorem LogSt.next {o0 o1 : Option Blk} {i : Nat} {a b : Blk} (h : LogSt o0 o1 i a) (hb : b.gen = (i : Int)) : nextOk o0 o1 b := by
  unfold LogSt at h
  unfold nextOk
  by_cases h0 : i = 0
  · rw [if_pos h0] at h
    obtain ⟨rfl, rfl, _⟩ := h
    simp only [bestO]
    omega
  · rw [if_neg h0] at h
    rw [h.1]
    simp only
    omega
/-- Behind a Save that may have been cut off. -/
theorem LogSt.cut {d : Dv} {o0 o1 : Option Blk} {i : Nat} {a b : Blk} (h : LogSt o0 o1 i a) (hd : SupSt d o0 o1) (hb : b.gen = (i : Int)) (hf : b.fits) (h0 : 0 ≤ d.limit) (h4 : d.limit ≤ 4) (m t : Nat) :
    ∃ p0 p1, SupSt ((d.save b).1.crash m t) p0 p1 ∧ (((d.save b).2 = 0 ∧ bestO p0 p1 = some b) ∨ ((d.save b).2 = 8 ∧ (bestO p0 p1 = some b ∨ (i ≠ 0 ∧ bestO p0 p1 = some a) ∨ (i = 0 ∧ bestO p0 p1 = none)))) := by
  have hold : ∀ q0 q1, bestO q0 q1 = bestO o0 o1 → (i ≠ 0 ∧ bestO q0 q1 = some a) ∨ (i = 0 ∧ bestO q0 q1 = none) := fun q0 q1 e => by
    unfold LogSt at h
    by_cases hi : i = 0
    · rw [if_pos hi] at h
      obtain ⟨rfl, rfl, _⟩ := h
      exact .inr ⟨hi, e⟩
    · rw [if_neg hi] at h
      exact .inl ⟨hi, e.trans h.1⟩
  have hnew : bestO (putO o0 o1 (b.gen % 2) (some b)).1 (putO o0 o1 (b.gen % 2) (some b)).2 = some b := by
    have := h.put hb
    unfold LogSt at this
    rw [if_neg (by omega)] at this
    exact this.1
  rcases (hd.save_crash hf h0 h4 m t).2 with ⟨e, hs⟩ | ⟨e, hs | hs | hs⟩
  · exact ⟨_, _, hs, .inl ⟨e, hnew⟩⟩
  · exact ⟨_, _, hs, .inr ⟨e, .inr (hold _ _ rfl)⟩⟩
  · exact ⟨_, _, hs, .inr ⟨e, .inl hnew⟩⟩
  · refine ⟨_, _, hs, .inr ⟨e, .inr (hold _ _ ?_)⟩⟩
    unfold LogSt at h
    by_cases hi : i = 0
    · rw [if_pos hi] at h
      obtain ⟨rfl, rfl, _⟩ := h
      unfold putO
      split <;> rfl
    · rw [if_neg hi] at h
      rw [h.1]
      exact bestO_drop (mod2 _) h.1 hd.p0 hd.p1 (by have := h.2; omega)
end Go.Proofs.Ytbjaphldncagjaa
