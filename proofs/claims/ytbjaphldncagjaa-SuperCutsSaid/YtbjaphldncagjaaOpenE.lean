/- What comes in, opened by its type's Enc: that it reads so; that it fits the form's reach; its bulk. -/
import Derived.Test.YtbjaphldncagjaaOpen
import Derived.Test.YtbjaphldncagjaaEncLaws
namespace Go.Proofs.Ytbjaphldncagjaa
open Go.ChangeShapes Go.WideShapes Go.ChangeAt Go.RowKit
set_option maxRecDepth 100000

/-- Whatever is read at type t reads by E; where all of it is within the reach it is fit; its bulk is at least wt. -/
def Opens {α : Type} (t : TypeId) (E : Enc α) (fit : α → Prop) (wt : α → Nat) : Prop :=
  ∀ (H : Type) (enc : TypeId × Value → H) (W : World) (base : Nat) (sp : Nat → Bool) (hd : Bool) (fuel : Nat) (cs : List Value) (x : DataW H × List MemPlace),
    DataW.trod enc Try.prog W base sp hd fuel t cs = some x → ∃ a, E.R (ltS W) W cs a ∧ ((∀ n ∈ x.1.weights Try.prog t, n ≤ reachBytes) → fit a) ∧ wt a ≤ Rows.uptoBulk x.1

def one {α : Type} : α → Nat := fun _ => 1
def any {α : Type} : α → Prop := fun _ => True
/-- A list's bulk, by its elements'. -/
def wtL {α : Type} (wt : α → Nat) : List α → Nat
  | [] => 1
  | a :: l => wt a + wtL wt l
theorem wtL_length {α : Type} {wt : α → Nat} (h : ∀ a, 1 ≤ wt a) (l : List α) : l.length + 1 ≤ wtL wt l := by
  induction l with
  | nil => simp [wtL]
  | cons a l ih => have := h a; simp only [wtL, List.length_cons]; omega
theorem wtL_mem {α : Type} {wt : α → Nat} {l : List α} {a : α} (h : a ∈ l) : wt a + 1 ≤ wtL wt l := by
  induction l with
  | nil => cases h
  | cons b l ih =>
    simp only [wtL]
    rcases List.mem_cons.1 h with e | e
    · subst e
      have : 1 ≤ wtL wt l := by cases l <;> simp [wtL]; rename_i x y; exact Nat.le_trans (by clear ih h; induction y with | nil => simp [wtL] | cons z y ih => simp only [wtL]; omega) (Nat.le_add_left _ _)
      omega
    · have := ih e; omega

theorem opens_u8 {t : TypeId} (ht : Try.prog.underlying t = some (.int .u8)) : Opens t encB any one := by
  intro H enc W base sp hd fuel cs x h
  obtain ⟨n, rfl, rfl, hw⟩ := DataW.trod_int ht h
  have hb := bounds_u8 hw
  refine ⟨UInt8.ofNat n.toNat, ⟨?_, trivial⟩, fun _ => trivial, by simp [one, Rows.uptoBulk]⟩
  unfold bV
  congr 2
  simp
  omega
theorem opens_int {t : TypeId} (ht : Try.prog.underlying t = some (.int .i64)) : Opens t encI any one := by
  intro H enc W base sp hd fuel cs x h
  obtain ⟨n, rfl, rfl, hw⟩ := DataW.trod_int ht h
  exact ⟨n, ⟨rfl, bounds_i64 hw⟩, fun _ => trivial, by simp [one, Rows.uptoBulk]⟩
theorem opens_u16 {t : TypeId} (ht : Try.prog.underlying t = some (.int .u16)) : Opens t encU16 any one := by
  intro H enc W base sp hd fuel cs x h
  obtain ⟨n, rfl, rfl, hw⟩ := DataW.trod_int ht h
  have hb := bounds_u16 hw
  refine ⟨n.toNat, ⟨?_, by omega⟩, fun _ => trivial, by simp [one, Rows.uptoBulk]⟩
  congr 2
  omega
theorem opens_bool {t : TypeId} (ht : Try.prog.underlying t = some .bool) : Opens t encBool any one := by
  intro H enc W base sp hd fuel cs x h
  obtain ⟨b, rfl, rfl⟩ := DataW.trod_bool ht h
  exact ⟨b, ⟨rfl, trivial⟩, fun _ => trivial, by simp [one, Rows.uptoBulk]⟩
theorem opens_str {t : TypeId} (ht : Try.prog.underlying t = some .string) : Opens t encS (fun l => l.length ≤ reachBytes) (fun l => l.length + 1) := by
  intro H enc W base sp hd fuel cs x h
  obtain ⟨s, rfl, rfl, hs⟩ := DataW.trod_string ht h
  refine ⟨s.data.toList, ⟨by show [Value.string s] = [Value.string (bstr s.data.toList)]; rw [bstr_data], by show s.data.toList.length ≤ maxLen; rw [Array.length_toList]; exact hs⟩, fun hw => hw _ (by simp [DataW.weights]), by simp [Rows.uptoBulk]⟩

theorem weightsAll_mem {H : Type} {P : Program} {e : TypeId} : ∀ {l : List (DataW H)} {d : DataW H} {n : Nat}, d ∈ l → n ∈ d.weights P e → n ∈ DataW.weightsAll P e l
  | x :: l, d, n, hd, hn => by
    rw [DataW.weightsAll, List.mem_append]
    rcases List.mem_cons.1 hd with e | e
    · subst e; exact .inl hn
    · exact .inr (weightsAll_mem e hn)

theorem bulkAll_append {H : Type} (l r : List (DataW H)) : Rows.uptoBulkAll (l ++ r) = Rows.uptoBulkAll l + Rows.uptoBulkAll r := by
  induction l with
  | nil => simp [Rows.uptoBulkAll]
  | cons x l ih => simp only [List.cons_append, Rows.uptoBulkAll, ih]; omega

/-- A list of choices, one for each place. -/
theorem choose_list {α β : Type} {R : Nat → β → α → Prop} : ∀ (l : List β), (∀ (i : Nat) (b : β), l[i]? = some b → ∃ a, R i b a) → ∃ ys : List α, ys.length = l.length ∧ ∀ (i : Nat) (b : β), l[i]? = some b → ∃ a, ys[i]? = some a ∧ R i b a
  | [], _ => ⟨[], rfl, fun i b h => by simp at h⟩
  | b :: l, h => by
    obtain ⟨a, ha⟩ := h 0 b rfl
    obtain ⟨ys, hl, has⟩ := choose_list (R := fun i b a => R (i + 1) b a) l (fun i b' hb => h (i + 1) b' (by simpa using hb))
    refine ⟨a :: ys, by simp [hl], fun i b' hb => ?_⟩
    cases i with
    | zero => simp at hb; subst hb; exact ⟨a, rfl, ha⟩
    | succ i => exact has i b' (by simpa using hb)

theorem wtL_le {α H : Type} {wt : α → Nat} : ∀ (ys : List α) (ds : List (DataW H)), ys.length = ds.length → (∀ (i : Nat) (d : DataW H), ds[i]? = some d → ∃ a, ys[i]? = some a ∧ wt a ≤ Rows.uptoBulk d) → wtL wt ys ≤ Rows.uptoBulkAll ds + 1
  | [], [], _, _ => by simp [wtL, Rows.uptoBulkAll]
  | [], _ :: _, h, _ => by simp at h
  | _ :: _, [], h, _ => by simp at h
  | a :: ys, d :: ds, h, hh => by
    obtain ⟨a', e, h1⟩ := hh 0 d rfl
    simp at e
    subst e
    have := wtL_le ys ds (by simpa using h) (fun i d' hd => hh (i + 1) d' (by simpa using hd))
    simp only [wtL, Rows.uptoBulkAll]
    omega

theorem opens_sl {α : Type} {t e : TypeId} {E : Enc α} {fit : α → Prop} {wt : α → Nat} (ht : Try.prog.underlying t = some (.slice e)) (hC : Try.prog.cellsOf e = E.size) (he : Opens e E fit wt) :
    Opens t (slE E) (fun l => l.length * Try.prog.bytesOf e ≤ reachBytes ∧ ∀ a ∈ l, fit a) (wtL wt) := by
  intro H enc W base sp hd fuel cs x h
  rcases DataW.trod_slice ht h with ⟨rfl, rfl⟩ | ⟨a, len, cap, elems, rest, n, _, rfl, rfl, hb, hl, hm, hlen, hel, _⟩
  · exact ⟨[], ⟨none, 0, 0, rfl, Els.nil _ _ _ _ _, Nat.le_refl _, by simp [maxLen]⟩, fun _ => ⟨by simp, by simp⟩, by simp [wtL, Rows.uptoBulk]⟩
  · obtain ⟨ys, hal, has⟩ := choose_list (R := fun i (y : DataW H × List MemPlace) a' => ∃ r, W.cells? base (a.add (i * E.size)) E.size = some r ∧ E.R (ltS W) W r a' ∧ ((∀ n ∈ y.1.weights Try.prog e, n ≤ reachBytes) → fit a') ∧ wt a' ≤ Rows.uptoBulk y.1) elems (fun i y hy => by
      have hi : i < len := by rw [← hlen]; exact (List.getElem?_eq_some_iff.1 hy).1
      have h1 := hel i hi
      rw [hy, Option.bind_eq_some_iff, hC] at h1
      obtain ⟨r, hr, ht'⟩ := h1
      obtain ⟨a', h2, h3, h4⟩ := he H enc W base sp hd n r y ht'
      exact ⟨a', r, hr, h2, h3, h4⟩)
    refine ⟨ys, ⟨_, len, cap, rfl, ⟨hal.trans hlen, fun hn => ?_⟩, hl, hm⟩, fun hw => ⟨?_, fun a' ha' => ?_⟩, ?_⟩
    · have h0 : ∃ y, elems[0]? = some y := ⟨_, List.getElem?_eq_getElem (by omega)⟩
      obtain ⟨y, hy⟩ := h0
      obtain ⟨_, _, r, hr, hR, _⟩ := has 0 y hy
      have hcell := World.cells?_some hr
      have hpos := E.pos
      have h1 := hcell.2.2 0 hpos
      rw [Nat.zero_mul] at h1
      have hsome : W.cell? ((a.add 0).add 0) = some (r[0]'(by rw [hcell.2.1]; exact hpos)) := by rw [h1]; exact List.getElem?_eq_getElem _
      have hsp : a.spot = none := by
        have := World.cell?_spot hsome
        simpa [Addr.add] using this
      obtain ⟨b, off, spot⟩ := a
      simp only at hsp
      subst hsp
      have hlt := World.block_lt_of_cell? W _ hsome
      refine ⟨b, off, rfl, by simpa [ltS, Addr.add] using hlt, fun i a' ha' => ?_⟩
      have hi : i < elems.length := by rw [← hal]; exact (List.getElem?_eq_some_iff.1 ha').1
      obtain ⟨a'', e1, r', hr', hR', _⟩ := has i _ (List.getElem?_eq_getElem hi)
      rw [e1] at ha'
      injection ha' with ha'
      subst ha'
      refine ⟨r', hR', fun j u hu => ?_⟩
      have hj : j < E.size := by rw [← E.len hR']; exact (List.getElem?_eq_some_iff.1 hu).1
      have := (World.cells?_some hr').2.2 j hj
      rw [add_flat, add_flat, hu, Nat.add_assoc] at this
      exact this
    · have := hw ((elems.map (·.1)).length * Try.prog.bytesOf e + (rest.map (·.1)).length * Try.prog.bytesOf e) (by simp [DataW.weights, ht, Nat.add_mul])
      simp at this
      rw [hal]
      omega
    · obtain ⟨i, hi⟩ := List.getElem?_of_mem ha'
      have hil : i < elems.length := by rw [← hal]; exact (List.getElem?_eq_some_iff.1 hi).1
      obtain ⟨a'', e1, r', _, _, hf, _⟩ := has i _ (List.getElem?_eq_getElem hil)
      rw [e1] at hi
      injection hi with hi
      subst hi
      refine hf fun n hn => hw n ?_
      simp only [DataW.weights, ht, List.mem_cons, List.mem_append]
      exact .inr (.inl (weightsAll_mem (List.mem_map.2 ⟨_, List.getElem_mem hil, rfl⟩) hn))
    · have h1 := wtL_le (wt := wt) ys (elems.map (·.1)) (by simpa using hal) (fun i d hd' => by
        rw [List.getElem?_map] at hd'
        cases hi : elems[i]? with
        | none => rw [hi] at hd'; cases hd'
        | some y =>
          rw [hi] at hd'
          simp at hd'
          subst hd'
          obtain ⟨a', e1, r, _, _, _, h4⟩ := has i y hi
          exact ⟨a', e1, h4⟩)
      simp only [Rows.uptoBulk]
      omega

theorem len1 {α : Type} {l : List α} (h : l.length = 1) : ∃ a0, l = [a0] := by
  match l, h with
  | [a0], _ => exact ⟨a0, rfl⟩
theorem len2 {α : Type} {l : List α} (h : l.length = 2) : ∃ a0 a1, l = [a0, a1] := by
  match l, h with
  | [a0, a1], _ => exact ⟨a0, a1, rfl⟩
theorem len3 {α : Type} {l : List α} (h : l.length = 3) : ∃ a0 a1 a2, l = [a0, a1, a2] := by
  match l, h with
  | [a0, a1, a2], _ => exact ⟨a0, a1, a2, rfl⟩
theorem len4 {α : Type} {l : List α} (h : l.length = 4) : ∃ a0 a1 a2 a3, l = [a0, a1, a2, a3] := by
  match l, h with
  | [a0, a1, a2, a3], _ => exact ⟨a0, a1, a2, a3, rfl⟩
theorem len5 {α : Type} {l : List α} (h : l.length = 5) : ∃ a0 a1 a2 a3 a4, l = [a0, a1, a2, a3, a4] := by
  match l, h with
  | [a0, a1, a2, a3, a4], _ => exact ⟨a0, a1, a2, a3, a4, rfl⟩
theorem len6 {α : Type} {l : List α} (h : l.length = 6) : ∃ a0 a1 a2 a3 a4 a5, l = [a0, a1, a2, a3, a4, a5] := by
  match l, h with
  | [a0, a1, a2, a3, a4, a5], _ => exact ⟨a0, a1, a2, a3, a4, a5, rfl⟩
theorem len7 {α : Type} {l : List α} (h : l.length = 7) : ∃ a0 a1 a2 a3 a4 a5 a6, l = [a0, a1, a2, a3, a4, a5, a6] := by
  match l, h with
  | [a0, a1, a2, a3, a4, a5, a6], _ => exact ⟨a0, a1, a2, a3, a4, a5, a6, rfl⟩
theorem len8 {α : Type} {l : List α} (h : l.length = 8) : ∃ a0 a1 a2 a3 a4 a5 a6 a7, l = [a0, a1, a2, a3, a4, a5, a6, a7] := by
  match l, h with
  | [a0, a1, a2, a3, a4, a5, a6, a7], _ => exact ⟨a0, a1, a2, a3, a4, a5, a6, a7, rfl⟩
theorem len9 {α : Type} {l : List α} (h : l.length = 9) : ∃ a0 a1 a2 a3 a4 a5 a6 a7 a8, l = [a0, a1, a2, a3, a4, a5, a6, a7, a8] := by
  match l, h with
  | [a0, a1, a2, a3, a4, a5, a6, a7, a8], _ => exact ⟨a0, a1, a2, a3, a4, a5, a6, a7, a8, rfl⟩
theorem len10 {α : Type} {l : List α} (h : l.length = 10) : ∃ a0 a1 a2 a3 a4 a5 a6 a7 a8 a9, l = [a0, a1, a2, a3, a4, a5, a6, a7, a8, a9] := by
  match l, h with
  | [a0, a1, a2, a3, a4, a5, a6, a7, a8, a9], _ => exact ⟨a0, a1, a2, a3, a4, a5, a6, a7, a8, a9, rfl⟩
theorem len11 {α : Type} {l : List α} (h : l.length = 11) : ∃ a0 a1 a2 a3 a4 a5 a6 a7 a8 a9 a10, l = [a0, a1, a2, a3, a4, a5, a6, a7, a8, a9, a10] := by
  match l, h with
  | [a0, a1, a2, a3, a4, a5, a6, a7, a8, a9, a10], _ => exact ⟨a0, a1, a2, a3, a4, a5, a6, a7, a8, a9, a10, rfl⟩
theorem len12 {α : Type} {l : List α} (h : l.length = 12) : ∃ a0 a1 a2 a3 a4 a5 a6 a7 a8 a9 a10 a11, l = [a0, a1, a2, a3, a4, a5, a6, a7, a8, a9, a10, a11] := by
  match l, h with
  | [a0, a1, a2, a3, a4, a5, a6, a7, a8, a9, a10, a11], _ => exact ⟨a0, a1, a2, a3, a4, a5, a6, a7, a8, a9, a10, a11, rfl⟩
theorem len13 {α : Type} {l : List α} (h : l.length = 13) : ∃ a0 a1 a2 a3 a4 a5 a6 a7 a8 a9 a10 a11 a12, l = [a0, a1, a2, a3, a4, a5, a6, a7, a8, a9, a10, a11, a12] := by
  match l, h with
  | [a0, a1, a2, a3, a4, a5, a6, a7, a8, a9, a10, a11, a12], _ => exact ⟨a0, a1, a2, a3, a4, a5, a6, a7, a8, a9, a10, a11, a12, rfl⟩

/-- An argument that is a slice. -/
theorem open_arg {α H : Type} {enc : TypeId × Value → H} {W : World} {base b0 : Nat} {sp : Nat → Bool} {hd : Bool} {r : Reach} {t e : TypeId} {E : Enc α} {fit : List α → Prop} {wt : List α → Nat} (ho : Opens t (slE E) fit wt) (ht : Try.prog.underlying t = some (.slice e))
    {v : Value} {d : DataW H} {p : List MemPlace} (hv : Value.okWide Try.prog W r b0 t v) (h : DataW.Trod enc Try.prog W base sp hd t v d p) :
    ∃ A n c l, v = .slice A n c ∧ RdE E W A n l ∧ n ≤ c ∧ c ≤ maxLen ∧ ((∀ n ∈ d.weights Try.prog t, n ≤ reachBytes) → fit l) ∧ wt l ≤ Rows.uptoBulk d := by
  obtain ⟨A, n, c, rfl⟩ := okWide_slice ht hv
  obtain ⟨fuel, hf⟩ := h
  obtain ⟨l, ⟨A', n', c', hr, he, h1, h2⟩, h3, h4⟩ := ho H enc W base sp hd fuel _ _ hf
  simp [Value.cells] at hr
  obtain ⟨rfl, rfl, rfl⟩ := hr
  exact ⟨A, n, c, l, rfl, he, h1, h2, h3, h4⟩

theorem sized_all {H : Type} {ts : List TypeId} {ds : List (DataW H)} (h : (DataW.weightsEach Try.prog ts ds).all (· ≤ reachBytes) = true) {j : Nat} {t : TypeId} {d : DataW H} (ht : ts[j]? = some t) (hd : ds[j]? = some d) :
    ∀ n ∈ d.weights Try.prog t, n ≤ reachBytes := fun n hn => by
  have := List.all_eq_true.1 h _ (DataW.weights_mem_each ht hd n hn)
  simpa using this

/-- A struct's fields, each with its own reading. -/
theorem trod_fields {H : Type} {enc : TypeId × Value → H} {W : World} {base fuel : Nat} {sp : Nat → Bool} {hd : Bool} {t : TypeId} {fs : Array Field} {cs : List Value} {x : DataW H × List MemPlace}
    (ht : Try.prog.underlying t = some (.struct fs)) (h : DataW.trod enc Try.prog W base sp hd fuel t cs = some x) :
    ∃ (xs : List (DataW H × List MemPlace)) (n : Nat), x.1 = .agg (xs.map (·.1)) ∧ cs.length = Try.prog.cellsOf t ∧ xs.length = fs.size ∧
      (∀ (i : Nat) (f : Field), fs[i]? = some f → ∃ y, xs[i]? = some y ∧ DataW.trod enc Try.prog W base sp hd n f.type ((cs.drop f.offset).take (Try.prog.cellsOf f.type)) = some y) ∧
      ∀ k, (∀ n ∈ x.1.weights Try.prog t, n ≤ k) → ∀ n ∈ DataW.weightsEach Try.prog (fs.toList.map (·.type)) (xs.map (·.1)), n ≤ k := by
  obtain ⟨xs, n, _, hx, hc, hl, hf⟩ := DataW.trod_struct ht h
  subst hx
  refine ⟨xs, n, rfl, hc, hl, fun i f hi => ?_, fun k hk n hn => hk n (by simpa only [DataW.weights, ht] using hn)⟩
  have hil : i < xs.length := by rw [hl]; exact (Array.getElem?_eq_some_iff.1 hi).1
  have h1 := hf i f hi
  rw [List.getElem?_eq_getElem hil] at h1
  exact ⟨_, List.getElem?_eq_getElem hil, h1⟩
end Go.Proofs.Ytbjaphldncagjaa
