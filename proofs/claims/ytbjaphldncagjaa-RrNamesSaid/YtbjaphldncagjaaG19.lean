/- Parts of a proof, joined: OwnP, IdxD, Among, RIn, RrSet. -/
import Derived.Test.YtbjaphldncagjaaG05
import Derived.Test.YtbjaphldncagjaaG02
import Derived.Test.YtbjaphldncagjaaG01
import Derived.Test.YtbjaphldncagjaaG16
/- slices.Clone of names and of numbers; rr.Own: data that shares nothing. -/
namespace Go.Proofs.Ytbjaphldncagjaa
open Go.RowKit
set_option maxRecDepth 100000

theorem wpL_cloneI {w : World} {So Si : Nat → Prop} {ops : Array Oper} {rest : List Oper} {o : Oper} {a : Act} {Q : Exit → Act → World → Prop} (hgd : Region.wanted o (yielded ops a.tmps) = true) (s x : Operand)
    (ho : o.op = .call { callee := .builtin .append, args := #[s, x], argTypes := #[44, 44] })
    {g : Nat} (hs : a.eval s = .slice (some ⟨g, 0, none⟩) 0 0) (A : Option Addr) (n c : Nat) (ns : List Int) (hx : a.eval x = .slice A n c) (hr : Els encI So Si w A n ns) (hn : n ≤ 8796093022208)
    (h : ∀ v' w', OwnE encI 3 noS w' w.heap.size v' ns → Below w.heap.size w w' → wpList Try.prog ops Q rest (a.put o.dst v') w') (hgs : g = w.heap.size := by simp) : wpList Try.prog ops Q (o :: rest) a (w.alloc (.cells #[] 3)) := by
  subst hgs
  obtain ⟨i, hi, hz, hsz, hby⟩ := info_parts infoI
  have hl := hr.len
  subst hl
  have hone : ∀ u ∈ ns.map intV, u.oneCell' = true := fun u hu => by
    obtain ⟨y, _, rfl⟩ := List.mem_map.1 hu
    rfl
  have hown0 : (w.alloc (.cells #[] 3)).ownsRow w.heap.size 3 1 (.slice (some ⟨w.heap.size, 0, none⟩) 0 0) 0 [] := World.ownsRow_lit (e := 3) (size := 1) w #[] 0 (Nat.le_refl _) (by simp) rfl
  refine wpList_want hgd fun K hK => ?_
  refine wp_append_any (P := Try.prog) s x _ ho w.heap.size 3 i _ 1 8 Try.underlying44 hi hz hsz hby rfl (by decide) _ 0 [] hs hown0 A ns.length c (ns.map intV) hx ((ints_rd hr).below (bl.alloc (Nat.le_refl _) _)) hone (by unfold maxLen; omega) (by omega) (by simp) fun v' w' h1 h2 h3 => hK _ _ (h v' w' ?_ ?_)
  · rw [Nat.zero_add, List.nil_append] at h1
    exact own_ints h1 (ints_max hr)
  · exact (bl.alloc (Nat.le_refl _) _).grown h2 (by simp) (fun k hk => by simp [Value.ownBlock] at hk; omega)

set_option maxHeartbeats 400000 in
theorem cloneS_any {So Si : Nat → Prop} (A : Option Addr) (n c : Nat) (ns : List (List UInt8)) (w : World) (h : Els encS So Si w A n ns) (hm : n ≤ 8796093022208) :
    Calls Try.prog 98 #[.slice A n c] w (RetP (fun v w' => OwnS w' w.heap.size v ns) w) := by
  have hl := h.len
  subst hl
  rcases A with _ | ad
  · have hn : ns = [] := by
      rcases ns with _ | ⟨x, ns⟩
      · rfl
      · obtain ⟨b, off, e, _⟩ := h.flat (by simp); cases e
    subst hn
    have he := fun W : World => Lib.run_eql_slice_nil (P := Try.prog) W 40 9 none ([] : List (List UInt8)).length c 0 0 Try.underlying40
    simp only [List.length_nil, Option.isNone_none] at he
    go_enter Try.func98, Try.ntmps98
    go_wp2
    go_ret
    exact ⟨_, rfl, OwnS.nil _ _, bl⟩
  · have he := fun W : World => Lib.run_eql_slice_nil (P := Try.prog) W 40 9 (some ad) ns.length c 0 0 Try.underlying40
    simp only [Option.isNone_some] at he
    go_enter Try.func98, Try.ntmps98
    go_wp2_with ((with_reducible show wpList _ _ _ (⟨some 7, _, _, _, _, _⟩ :: _) _ _); refine wpL_cloneS rfl (.tmp 5) (.tmp 6) rfl rfl _ _ c ns rfl h hm ?_; intro v2 w2 hown2 hb2)
    go_ret
    exact ⟨_, rfl, hown2, hb2⟩
set_option maxHeartbeats 400000 in
theorem cloneI_any {So Si : Nat → Prop} (A : Option Addr) (n c : Nat) (ns : List Int) (w : World) (h : Els encI So Si w A n ns) (hm : n ≤ 8796093022208) :
    Calls Try.prog 133 #[.slice A n c] w (RetP (fun v w' => OwnE encI 3 noS w' w.heap.size v ns) w) := by
  have hl := h.len
  subst hl
  rcases A with _ | ad
  · have hn : ns = [] := by
      rcases ns with _ | ⟨x, ns⟩
      · rfl
      · obtain ⟨b, off, e, _⟩ := h.flat (by simp); cases e
    subst hn
    have he := fun W : World => Lib.run_eql_slice_nil (P := Try.prog) W 44 3 none ([] : List Int).length c 0 0 Try.underlying44
    simp only [List.length_nil, Option.isNone_none] at he
    go_enter Try.func133, Try.ntmps133
    go_wp2
    go_ret
    exact ⟨_, rfl, OwnE.nil _ _ _ _, bl⟩
  · have he := fun W : World => Lib.run_eql_slice_nil (P := Try.prog) W 44 3 (some ad) ns.length c 0 0 Try.underlying44
    simp only [Option.isNone_some] at he
    go_enter Try.func133, Try.ntmps133
    go_wp2_with ((with_reducible show wpList _ _ _ (⟨some 7, _, _, _, _, _⟩ :: _) _ _); refine wpL_cloneI rfl (.tmp 5) (.tmp 6) rfl rfl _ _ c ns rfl h hm ?_; intro v2 w2 hown2 hb2)
    go_ret
    exact ⟨_, rfl, hown2, hb2⟩

theorem DBox.far5 {w : World} {q p : Nat} {s : DS} {x : Da} (h : DBox w q s x) (hq : q ≠ p) (v0 v1 v2 v3 v4 : Value) : DBox (((((w.setCell ⟨p, 0, none⟩ v0).setCell ⟨p, 1, none⟩ v1).setCell ⟨p, 2, none⟩ v2).setCell ⟨p, 3, none⟩ v3).setCell ⟨p, 4, none⟩ v4) q s x := by
  obtain ⟨h0, h1, h2, h3, h4⟩ := h
  have k : ∀ (j : Nat) (u : Value), w.cell? ⟨q, j, none⟩ = some u → (((((w.setCell ⟨p, 0, none⟩ v0).setCell ⟨p, 1, none⟩ v1).setCell ⟨p, 2, none⟩ v2).setCell ⟨p, 3, none⟩ v3).setCell ⟨p, 4, none⟩ v4).cell? ⟨q, j, none⟩ = some u := fun j u hu => by
    have hne : ∀ i : Nat, (⟨p, i, none⟩ : Addr).block ≠ (⟨q, j, none⟩ : Addr).block := fun i e => hq e.symm
    rw [World.cell?_setCell_far _ _ _ _ (hne 4), World.cell?_setCell_far _ _ _ _ (hne 3), World.cell?_setCell_far _ _ _ _ (hne 2), World.cell?_setCell_far _ _ _ _ (hne 1), World.cell?_setCell_far _ _ _ _ (hne 0)]
    exact hu
  exact ⟨k 0 _ h0, k 1 _ h1, k 2 _ h2, k 3 _ h3, k 4 _ h4⟩
theorem set5 {w : World} {g : Nat} {t : TypeId} {a0 a1 a2 a3 a4 : Value} (h : w.heap[g]? = some (.cells #[a0, a1, a2, a3, a4] t (0, 0))) (v0 v1 v2 v3 v4 : Value) : (((((w.setCell ⟨g, 0, none⟩ v0).setCell ⟨g, 1, none⟩ v1).setCell ⟨g, 2, none⟩ v2).setCell ⟨g, 3, none⟩ v3).setCell ⟨g, 4, none⟩ v4).heap[g]? = some (.cells #[v0, v1, v2, v3, v4] t (0, 0)) :=
  heap_setCell_same _ _ 4 _ _ _ (heap_setCell_same _ _ 3 _ _ _ (heap_setCell_same _ _ 2 _ _ _ (heap_setCell_same _ _ 1 _ _ _ (heap_setCell_same _ _ 0 _ _ _ h))))
/-- Data so small that it can be copied. -/
def LightB (x : Da) : Prop := x.bytes.length ≤ 8796093022208 ∧ x.host.length ≤ 8796093022208 ∧ x.mail.length ≤ 8796093022208 ∧ x.nums.length ≤ 8796093022208 ∧ x.texts.length ≤ 8796093022208

set_option maxHeartbeats 4000000 in
theorem pown_any (s : DS) (x : Da) (w : World) {S : Nat → Prop} (hx : DIn S w s x) (hS : ∀ b, S b → b < w.heap.size) (hL : LightB x) :
    Calls Try.prog 91 #[dsV s x] w (RetP (fun v w' => ∃ s', v = dsV s' x ∧ DIn (geS w.heap.size w') w' s' x) w) := by
  unfold dsV
  obtain ⟨w1, hw1⟩ : ∃ w1, w1 = w.alloc (.cells #[.slice s.A0 x.bytes.length s.c0, .slice s.A1 x.host.length s.c1, .slice s.A2 x.mail.length s.c2, .slice s.A3 x.nums.length s.c3, .slice s.A4 x.texts.length s.c4] 46) := ⟨_, rfl⟩
  obtain ⟨w0, hw0⟩ : ∃ w0, w0 = w1.alloc (.cells #[.slice none 0 0, .slice none 0 0, .slice none 0 0, .slice none 0 0, .slice none 0 0] 46) := ⟨_, rfl⟩
  have hb1 : Below w.heap.size w w1 := by rw [hw1]; exact bl.alloc (Nat.le_refl _) _
  have hb2 : Below w1.heap.size w1 w0 := by rw [hw0]; exact bl.alloc (Nat.le_refl _) _
  have hz1 : w1.heap.size = w.heap.size + 1 := by rw [hw1]; simp
  have hz0 : w0.heap.size = w.heap.size + 2 := by rw [hw0]; simp; omega
  have hb0 := nx hb1 hb2
  have hX : DIn S w0 s x := hx.below hb0 hS
  have HX := Lib.hid hX
  have HS0 : Hid (∀ b, S b → b < w0.heap.size) := fun b hb => Nat.lt_of_lt_of_le (hS b hb) hb0.size
  have HL := Lib.hid hL
  have BX : Hid (DBox w0 w.heap.size s x) := by show DBox _ _ _ _; have h : DBox w1 w.heap.size s x := by { rw [hw1]; exact DBox.made w s x _ }; exact h.below hb2
  have hrow : w0.heap[w.heap.size + 1]? = some (.cells #[.slice none 0 0, .slice none 0 0, .slice none 0 0, .slice none 0 0, .slice none 0 0] 46 (0, 0)) := by rw [← hz1, hw0]; exact heap_alloc_new w1 _
  have HROW := Lib.hid hrow
  have HB0 := Lib.hid hb0
  have HZ0 := Lib.hid hz0
  obtain ⟨a0, a1, a2, a3, a4⟩ := BX.out
  have p0 : w0.drew.cell? ⟨w.heap.size, 0, none⟩ = some (.slice s.A0 x.bytes.length s.c0) ∧ w0.drew.cell? ⟨w.heap.size, 1, none⟩ = some (.slice s.A1 x.host.length s.c1) ∧ w0.drew.cell? ⟨w.heap.size, 2, none⟩ = some (.slice s.A2 x.mail.length s.c2) ∧ w0.drew.cell? ⟨w.heap.size, 3, none⟩ = some (.slice s.A3 x.nums.length s.c3) ∧ w0.drew.cell? ⟨w.heap.size, 4, none⟩ = some (.slice s.A4 x.texts.length s.c4) := ⟨below_cell bl.drew a0, below_cell bl.drew a1, below_cell bl.drew a2, below_cell bl.drew a3, below_cell bl.drew a4⟩
  clear hx hS hL hb1 hb2 hz1 hz0 hb0 hX hrow
  go_enter Try.func91, Try.ntmps91
  go_upto_region 1 with (fail)
  rw [← hw1, ← hw0]
  clear hw1 hw0
  go_region_held3 (fun w' => w'.cell? ⟨w.heap.size, 0, none⟩ = some (.slice s.A0 x.bytes.length s.c0) ∧ w'.cell? ⟨w.heap.size, 1, none⟩ = some (.slice s.A1 x.host.length s.c1) ∧ w'.cell? ⟨w.heap.size, 2, none⟩ = some (.slice s.A2 x.mail.length s.c2) ∧ w'.cell? ⟨w.heap.size, 3, none⟩ = some (.slice s.A3 x.nums.length s.c3) ∧ w'.cell? ⟨w.heap.size, 4, none⟩ = some (.slice s.A4 x.texts.length s.c4))
    (first
      | with_reducible exact p0
      | with_reducible exact p1
      | with_reducible exact p2
      | with_reducible exact p3
      | with_reducible exact p4
      | with_reducible exact p5
      | with_reducible exact p6
      | fail)
    (first
      | (go_at_call 98; refine (cloneS_any s.A4 _ s.c4 x.texts w4 (HX.out.below hB4 HS0.out).t HL.out.2.2.2.2).mono ?_; rintro e w5 ⟨v5, rfl, ho5, hb5⟩; obtain ⟨C4, k4, rfl, _⟩ := OwnE.form ho5; have hB5 := nx hB4 hb5; have hr5 := (hB5.block (w.heap.size + 1) (by have := HZ0.out; omega)).trans HROW.out; have g0 := (cell_of_row _ _ 0 _ _ _ hr5).trans rfl; have g1 := (cell_of_row _ _ 1 _ _ _ hr5).trans rfl; have g2 := (cell_of_row _ _ 2 _ _ _ hr5).trans rfl; have g3 := (cell_of_row _ _ 3 _ _ _ hr5).trans rfl; have g4 := (cell_of_row _ _ 4 _ _ _ hr5).trans rfl; have f0 : ∀ k, w5.frozen? ⟨w.heap.size + 1, k, none⟩ = false := fun k => frozen_of_row _ _ _ _ _ hr5; have p6 : _ ∧ _ := (BX.out.below hB5).far5 (p := w.heap.size + 1) (Nat.ne_of_lt (Nat.lt_succ_self _)) (.slice C0 x.bytes.length k0) (.slice C1 x.host.length k1) (.slice C2 x.mail.length k2) (.slice C3 x.nums.length k3) (.slice C4 x.texts.length k4); have p5 : _ ∧ _ := BX.out.below hB5)
      | (go_at_call 133; refine (cloneI_any s.A3 _ s.c3 x.nums w3 (HX.out.below hB3 HS0.out).n HL.out.2.2.2.1).mono ?_; rintro e w4 ⟨v4, rfl, ho4, hb4⟩; obtain ⟨C3, k3, rfl, _⟩ := OwnE.form ho4; have hB4 := nx hB3 hb4; have p4 : _ ∧ _ := BX.out.below hB4)
      | (go_at_call 98; refine (cloneS_any s.A2 _ s.c2 x.mail w2 (HX.out.below hB2 HS0.out).m HL.out.2.2.1).mono ?_; rintro e w3 ⟨v3, rfl, ho3, hb3⟩; obtain ⟨C2, k2, rfl, _⟩ := OwnE.form ho3; have hB3 := nx hB2 hb3; have p3 : _ ∧ _ := BX.out.below hB3)
      | (go_at_call 98; refine (cloneS_any s.A1 _ s.c1 x.host w1' (HX.out.below hB1 HS0.out).h HL.out.2.1).mono ?_; rintro e w2 ⟨v2, rfl, ho2, hb2⟩; obtain ⟨C1, k1, rfl, _⟩ := OwnE.form ho2; have hB2 := nx hB1 hb2; have p2 : _ ∧ _ := BX.out.below hB2)
      | (go_at_call 113; refine (sclone_any s.A0 _ s.c0 x.bytes w0.drew (els_bytes (HX.out.below bl.drew HS0.out).b) (by have := HL.out.1; omega)).mono ?_; rintro e w1' ⟨v1, rfl, ho1, hb1⟩; obtain ⟨C0, k0, rfl, _⟩ := ho1.form; have hB1 : Below w0.heap.size w0 w1' := bl.drew.trans hb1; have p1 : _ ∧ _ := BX.out.below hB1)
      | fail)
  obtain ⟨wm, hwm⟩ : ∃ wm, wm = (((((w5.setCell ⟨w.heap.size + 1, 0, none⟩ (.slice C0 x.bytes.length k0)).setCell ⟨w.heap.size + 1, 1, none⟩ (.slice C1 x.host.length k1)).setCell ⟨w.heap.size + 1, 2, none⟩ (.slice C2 x.mail.length k2)).setCell ⟨w.heap.size + 1, 3, none⟩ (.slice C3 x.nums.length k3)).setCell ⟨w.heap.size + 1, 4, none⟩ (.slice C4 x.texts.length k4)) := ⟨_, rfl⟩
  have hrm : wm.heap[w.heap.size + 1]? = some (.cells #[.slice C0 x.bytes.length k0, .slice C1 x.host.length k1, .slice C2 x.mail.length k2, .slice C3 x.nums.length k3, .slice C4 x.texts.length k4] 46 (0, 0)) := by rw [hwm]; exact set5 hr5 _ _ _ _ _
  have hcm : Chg (fun z => z = w.heap.size + 1) w5 wm := by
    rw [hwm]
    have k : ∀ {u : World} (j : Nat) (v : Value), Chg (fun k => k = w.heap.size + 1) w5 u → Chg (fun k => k = w.heap.size + 1) w5 (u.setCell ⟨w.heap.size + 1, j, none⟩ v) := fun j v h => h.setCell (p := ⟨w.heap.size + 1, j, none⟩) (Or.inl rfl) v
    exact k 4 _ (k 3 _ (k 2 _ (k 1 _ (k 0 _ (Chg.refl _ w5)))))
  rw [← hwm]
  have z0 : wm.cell? ⟨w.heap.size + 1, 0, none⟩ = some (.slice C0 x.bytes.length k0) := (cell_of_row _ _ 0 _ _ _ hrm).trans rfl
  have z1 : wm.cell? ⟨w.heap.size + 1, 1, none⟩ = some (.slice C1 x.host.length k1) := (cell_of_row _ _ 1 _ _ _ hrm).trans rfl
  have z2 : wm.cell? ⟨w.heap.size + 1, 2, none⟩ = some (.slice C2 x.mail.length k2) := (cell_of_row _ _ 2 _ _ _ hrm).trans rfl
  have z3 : wm.cell? ⟨w.heap.size + 1, 3, none⟩ = some (.slice C3 x.nums.length k3) := (cell_of_row _ _ 3 _ _ _ hrm).trans rfl
  have z4 : wm.cell? ⟨w.heap.size + 1, 4, none⟩ = some (.slice C4 x.texts.length k4) := (cell_of_row _ _ 4 _ _ _ hrm).trans rfl
  have s0 := HZ0.out
  have s1 : w0.heap.size ≤ w1'.heap.size := hB1.size
  have s2 := hb2.size
  have s3 := hb3.size
  have s4 := hb4.size
  have s5 := hb5.size
  have sm := hcm.size
  have sd : w0.drew.heap.size = w0.heap.size := rfl
  have hm : ∀ b, geS (w.heap.size + 2) wm b → geS w.heap.size wm b := fun b hb => ⟨by have := hb.1; omega, hb.2⟩
  have e1 := ownB_els (ownB_chg ((((ho1.below hb2).below hb3).below hb4).below hb5) hcm (fun k h1 _ e => by omega) |>.mono (base' := w.heap.size + 2) (by omega)) rfl
  have e2 := ownE_els (OwnE.base_le (base' := w.heap.size + 2) (ownE_chg (((ho2.below hb3).below hb4).below hb5) hcm (fun k h1 _ e => by omega)) (by omega)) rfl
  have e3 := ownE_els (OwnE.base_le (base' := w.heap.size + 2) (ownE_chg ((ho3.below hb4).below hb5) hcm (fun k h1 _ e => by omega)) (by omega)) rfl
  have e4 := ownE_els (OwnE.base_le (base' := w.heap.size + 2) (ownE_chg (ho4.below hb5) hcm (fun k h1 _ e => by omega)) (by omega)) rfl
  have e5 := ownE_els (OwnE.base_le (base' := w.heap.size + 2) (ownE_chg ho5 hcm (fun k h1 _ e => by omega)) (by omega)) rfl
  have hbm : Below w.heap.size w wm := (nx HB0.out hB5).trans (hcm.below (fun z hz => by omega) (by omega))
  clear p0 p1 p2 p3 p4 p5 p6 g0 g1 g2 g3 g4
  go_wp2
  refine bodyPost_ret (v := dsV ⟨C0, C1, C2, C3, C4, k0, k1, k2, k3, k4⟩ x) ?_ rfl ⟨_, rfl, ⟨_, rfl, ⟨e1.1.mono hm hm, e2.1.mono hm hm, e3.1.mono hm hm, e4.1.mono hm hm, e5.1.mono hm hm, e1.2, e2.2, e3.2, e4.2, e5.2⟩⟩, hbm⟩
  simp [results, Try.results91, go_sem, z0, z1, z2, z3, z4]
  rfl
end Go.Proofs.Ytbjaphldncagjaa

/- slices.IndexFunc and ContainsFunc over data; what is among data; the program's sets and the reference's. -/
namespace Go.Proofs.Ytbjaphldncagjaa
open Go.RowKit
set_option maxRecDepth 100000

/-- Data's five cells, at a place. -/
def DCells (w : World) (b p : Nat) (s : DS) (x : Da) : Prop :=
  w.cell? ⟨b, p, none⟩ = some (.slice s.A0 x.bytes.length s.c0) ∧ w.cell? ⟨b, p + 1, none⟩ = some (.slice s.A1 x.host.length s.c1) ∧ w.cell? ⟨b, p + 2, none⟩ = some (.slice s.A2 x.mail.length s.c2) ∧ w.cell? ⟨b, p + 3, none⟩ = some (.slice s.A3 x.nums.length s.c3) ∧ w.cell? ⟨b, p + 4, none⟩ = some (.slice s.A4 x.texts.length s.c4)
theorem DCells.below {w w' : World} {b p : Nat} {s : DS} {x : Da} (h : DCells w b p s x) (hb : Below w.heap.size w w') : DCells w' b p s x := by
  obtain ⟨h0, h1, h2, h3, h4⟩ := h
  exact ⟨below_cell hb h0, below_cell hb h1, below_cell hb h2, below_cell hb h3, below_cell hb h4⟩
theorem da_at {So Si : Nat → Prop} {w : World} {A : Option Addr} {n : Nat} {xs : List Da} (h : Els encDa So Si w A n xs) {k : Nat} {r : Da} (hx : xs[k]? = some r) :
    ∃ b off s, A = some ⟨b, off, none⟩ ∧ So b ∧ DIn Si w s r ∧ DCells w b (off + k * 5) s r := by
  obtain ⟨b, off, rfl, hb, hat⟩ := Els.flat h (by rw [← h.len]; exact Nat.lt_of_le_of_lt (Nat.zero_le k) (List.getElem?_eq_some_iff.1 hx).1)
  obtain ⟨r', ⟨s, rfl, hr⟩, hc⟩ := hat k r hx
  refine ⟨b, off, s, rfl, hb, hr, ?_⟩
  have hc' : ∀ j u, (dCells s r).toList[j]? = some u → w.cell? ⟨b, off + k * 5 + j, none⟩ = some u := fun j u hu => by rw [Nat.add_assoc]; exact hc j u hu
  exact ⟨hc' 0 _ rfl, hc' 1 _ rfl, hc' 2 _ rfl, hc' 3 _ rfl, hc' 4 _ rfl⟩
theorem any_take_succ {α : Type} {p : α → Bool} {xs : List α} {k : Nat} {x : α} (hx : xs[k]? = some x) (h : (xs.take k).any p = false) (hp : p x = false) : (xs.take (k + 1)).any p = false := by
  rw [List.take_add_one, hx, List.any_append, h, Option.toList_some]
  simp [hp]

set_option maxHeartbeats 1000000 in
theorem indexAm_any (q0 : Nat) (p : Da → Bool) (A : Option Addr) (n c : Nat) (xs : List Da) (w : World) (h : RdE encDa w A n xs) (hn : n ≤ 1000000000)
    (hf : ∀ (s : DS) (x : Da) (W : World), Below w.heap.size w W → DRd W s x → Calls Try.prog 132 #[dsV s x, .pointer (some ⟨q0, 0, none⟩)] W (RetP (fun v _ => v = .bool (p x)) W)) :
    Calls Try.prog 153 #[.slice A n c, .func (.func 132) #[] #[.pointer (some ⟨q0, 0, none⟩)]] w (RetP (fun v _ => ∃ i : Int, v = .int .i64 i ∧ (0 ≤ i ↔ xs.any p = true)) w) := by
  have hl := h.len
  subst hl
  have H := Lib.hid h
  have HF := Lib.hid hf
  clear h hf
  go_enter Try.func153, Try.ntmps153
  go_wp2
  go_loopw [5, 8] (fun _ iv wr => ∃ k : Nat, iv = .int .i64 k ∧ k ≤ xs.length ∧ Hid ((xs.take k).any p = false) ∧ Hid (Below w.heap.size w wr)) (fun _ iv _ => xs.length - (intOf iv).toNat)
  case atStart => exact ⟨0, rfl, Nat.zero_le _, rfl, bl⟩
  case round =>
    obtain ⟨k, rfl, hk, HK, HBW⟩ := hrel
    by_cases hlt : k < xs.length
    · obtain ⟨x, hx⟩ : ∃ x, xs[k]? = some x := ⟨_, List.getElem?_eq_getElem hlt⟩
      obtain ⟨b, off, s, rfl, _, hd, hc⟩ := da_at H.out hx
      obtain ⟨d0, d1, d2, d3, d4⟩ := hc.below HBW.out
      have hq := HF.out s x wr HBW.out ((hd.rd (fun b hb => hb)).below HBW.out)
      have HX := Lib.hid hx
      unfold dsV at hq
      clear hx hd hc
      cases hp : p x with
      | false =>
        rw [hp] at hq
        have HQ := Lib.hid hq
        have HP := Lib.hid hp
        clear hq hp
        go_wp2_with (go_at_call 132; refine HQ.out.mono ?_; rintro e w1 ⟨v1, rfl, rfl, hb1⟩)
        go_roundw
        case rel => exact ⟨k + 1, by go_num, by omega, any_take_succ HX.out HK.out HP.out, nx HBW.out hb1⟩
        case measure => simp [intOf]; omega
      | true =>
        rw [hp] at hq
        have HQ := Lib.hid hq
        have HP := Lib.hid hp
        clear hq hp
        go_wp2_with (go_at_call 132; refine HQ.out.mono ?_; rintro e w1 ⟨v1, rfl, rfl, hb1⟩)
        go_ret
        exact ⟨_, rfl, ⟨_, rfl, ⟨fun _ => List.any_eq_true.2 ⟨x, List.mem_of_getElem? HX.out, HP.out⟩, fun _ => Int.natCast_nonneg _⟩⟩, nx HBW.out hb1⟩
    · obtain rfl : k = xs.length := by omega
      rw [List.take_length] at HK
      go_wp2
      go_ret
      exact ⟨_, rfl, ⟨-1, rfl, ⟨fun h => absurd h (by decide), fun h => by rw [HK.out] at h; cases h⟩⟩, HBW.out⟩
theorem hasAm_any (q0 : Nat) (p : Da → Bool) (A : Option Addr) (n c : Nat) (xs : List Da) (w : World) (h : RdE encDa w A n xs) (hn : n ≤ 1000000000)
    (hf : ∀ (s : DS) (x : Da) (W : World), Below w.heap.size w W → DRd W s x → Calls Try.prog 132 #[dsV s x, .pointer (some ⟨q0, 0, none⟩)] W (RetP (fun v _ => v = .bool (p x)) W)) :
    Calls Try.prog 131 #[.slice A n c, .func (.func 132) #[] #[.pointer (some ⟨q0, 0, none⟩)]] w (RetP (fun v _ => v = .bool (xs.any p)) w) := by
  have HQ := Lib.hid (indexAm_any q0 p A n c xs w h hn hf)
  clear h hf
  go_enter Try.func131, Try.ntmps131
  go_wp2_with (go_at_call 153; refine HQ.out.mono ?_; rintro e w1 ⟨v1, rfl, ⟨i, rfl, hi⟩, hb1⟩; have HI := Lib.hid hi; clear hi)
  go_ret
  refine ⟨_, rfl, ?_, hb1⟩
  show Value.bool _ = Value.bool _
  congr 1
  rw [Bool.eq_iff_iff, decide_eq_true_iff, HI.out]

set_option maxHeartbeats 1000000 in
theorem indexWa_any (q0 : Nat) (q1 : Nat) (p : Da → Bool) (A : Option Addr) (n c : Nat) (xs : List Da) (w : World) (h : RdE encDa w A n xs) (hn : n ≤ 1000000000)
    (hf : ∀ (s : DS) (x : Da) (W : World), Below w.heap.size w W → DRd W s x → Calls Try.prog 137 #[dsV s x, .pointer (some ⟨q0, 0, none⟩), .pointer (some ⟨q1, 0, none⟩)] W (RetP (fun v _ => v = .bool (p x)) W)) :
    Calls Try.prog 153 #[.slice A n c, .func (.func 137) #[] #[.pointer (some ⟨q0, 0, none⟩), .pointer (some ⟨q1, 0, none⟩)]] w (RetP (fun v _ => ∃ i : Int, v = .int .i64 i ∧ (0 ≤ i ↔ xs.any p = true)) w) := by
  have hl := h.len
  subst hl
  have H := Lib.hid h
  have HF := Lib.hid hf
  clear h hf
  go_enter Try.func153, Try.ntmps153
  go_wp2
  go_loopw [5, 8] (fun _ iv wr => ∃ k : Nat, iv = .int .i64 k ∧ k ≤ xs.length ∧ Hid ((xs.take k).any p = false) ∧ Hid (Below w.heap.size w wr)) (fun _ iv _ => xs.length - (intOf iv).toNat)
  case atStart => exact ⟨0, rfl, Nat.zero_le _, rfl, bl⟩
  case round =>
    obtain ⟨k, rfl, hk, HK, HBW⟩ := hrel
    by_cases hlt : k < xs.length
    · obtain ⟨x, hx⟩ : ∃ x, xs[k]? = some x := ⟨_, List.getElem?_eq_getElem hlt⟩
      obtain ⟨b, off, s, rfl, _, hd, hc⟩ := da_at H.out hx
      obtain ⟨d0, d1, d2, d3, d4⟩ := hc.below HBW.out
      have hq := HF.out s x wr HBW.out ((hd.rd (fun b hb => hb)).below HBW.out)
      have HX := Lib.hid hx
      unfold dsV at hq
      clear hx hd hc
      cases hp : p x with
      | false =>
        rw [hp] at hq
        have HQ := Lib.hid hq
        have HP := Lib.hid hp
        clear hq hp
        go_wp2_with (go_at_call 137; refine HQ.out.mono ?_; rintro e w1 ⟨v1, rfl, rfl, hb1⟩)
        go_roundw
        case rel => exact ⟨k + 1, by go_num, by omega, any_take_succ HX.out HK.out HP.out, nx HBW.out hb1⟩
        case measure => simp [intOf]; omega
      | true =>
        rw [hp] at hq
        have HQ := Lib.hid hq
        have HP := Lib.hid hp
        clear hq hp
        go_wp2_with (go_at_call 137; refine HQ.out.mono ?_; rintro e w1 ⟨v1, rfl, rfl, hb1⟩)
        go_ret
        exact ⟨_, rfl, ⟨_, rfl, ⟨fun _ => List.any_eq_true.2 ⟨x, List.mem_of_getElem? HX.out, HP.out⟩, fun _ => Int.natCast_nonneg _⟩⟩, nx HBW.out hb1⟩
    · obtain rfl : k = xs.length := by omega
      rw [List.take_length] at HK
      go_wp2
      go_ret
      exact ⟨_, rfl, ⟨-1, rfl, ⟨fun h => absurd h (by decide), fun h => by rw [HK.out] at h; cases h⟩⟩, HBW.out⟩
theorem hasWa_any (q0 : Nat) (q1 : Nat) (p : Da → Bool) (A : Option Addr) (n c : Nat) (xs : List Da) (w : World) (h : RdE encDa w A n xs) (hn : n ≤ 1000000000)
    (hf : ∀ (s : DS) (x : Da) (W : World), Below w.heap.size w W → DRd W s x → Calls Try.prog 137 #[dsV s x, .pointer (some ⟨q0, 0, none⟩), .pointer (some ⟨q1, 0, none⟩)] W (RetP (fun v _ => v = .bool (p x)) W)) :
    Calls Try.prog 131 #[.slice A n c, .func (.func 137) #[] #[.pointer (some ⟨q0, 0, none⟩), .pointer (some ⟨q1, 0, none⟩)]] w (RetP (fun v _ => v = .bool (xs.any p)) w) := by
  have HQ := Lib.hid (indexWa_any q0 q1 p A n c xs w h hn hf)
  clear h hf
  go_enter Try.func131, Try.ntmps131
  go_wp2_with (go_at_call 153; refine HQ.out.mono ?_; rintro e w1 ⟨v1, rfl, ⟨i, rfl, hi⟩, hb1⟩; have HI := Lib.hid hi; clear hi)
  go_ret
  refine ⟨_, rfl, ?_, hb1⟩
  show Value.bool _ = Value.bool _
  congr 1
  rw [Bool.eq_iff_iff, decide_eq_true_iff, HI.out]

set_option maxHeartbeats 1000000 in
theorem indexWb_any (q0 : Nat) (q1 : Nat) (p : Da → Bool) (A : Option Addr) (n c : Nat) (xs : List Da) (w : World) (h : RdE encDa w A n xs) (hn : n ≤ 1000000000)
    (hf : ∀ (s : DS) (x : Da) (W : World), Below w.heap.size w W → DRd W s x → Calls Try.prog 138 #[dsV s x, .pointer (some ⟨q0, 0, none⟩), .pointer (some ⟨q1, 0, none⟩)] W (RetP (fun v _ => v = .bool (p x)) W)) :
    Calls Try.prog 153 #[.slice A n c, .func (.func 138) #[] #[.pointer (some ⟨q0, 0, none⟩), .pointer (some ⟨q1, 0, none⟩)]] w (RetP (fun v _ => ∃ i : Int, v = .int .i64 i ∧ (0 ≤ i ↔ xs.any p = true)) w) := by
  have hl := h.len
  subst hl
  have H := Lib.hid h
  have HF := Lib.hid hf
  clear h hf
  go_enter Try.func153, Try.ntmps153
  go_wp2
  go_loopw [5, 8] (fun _ iv wr => ∃ k : Nat, iv = .int .i64 k ∧ k ≤ xs.length ∧ Hid ((xs.take k).any p = false) ∧ Hid (Below w.heap.size w wr)) (fun _ iv _ => xs.length - (intOf iv).toNat)
  case atStart => exact ⟨0, rfl, Nat.zero_le _, rfl, bl⟩
  case round =>
    obtain ⟨k, rfl, hk, HK, HBW⟩ := hrel
    by_cases hlt : k < xs.length
    · obtain ⟨x, hx⟩ : ∃ x, xs[k]? = some x := ⟨_, List.getElem?_eq_getElem hlt⟩
      obtain ⟨b, off, s, rfl, _, hd, hc⟩ := da_at H.out hx
      obtain ⟨d0, d1, d2, d3, d4⟩ := hc.below HBW.out
      have hq := HF.out s x wr HBW.out ((hd.rd (fun b hb => hb)).below HBW.out)
      have HX := Lib.hid hx
      unfold dsV at hq
      clear hx hd hc
      cases hp : p x with
      | false =>
        rw [hp] at hq
        have HQ := Lib.hid hq
        have HP := Lib.hid hp
        clear hq hp
        go_wp2_with (go_at_call 138; refine HQ.out.mono ?_; rintro e w1 ⟨v1, rfl, rfl, hb1⟩)
        go_roundw
        case rel => exact ⟨k + 1, by go_num, by omega, any_take_succ HX.out HK.out HP.out, nx HBW.out hb1⟩
        case measure => simp [intOf]; omega
      | true =>
        rw [hp] at hq
        have HQ := Lib.hid hq
        have HP := Lib.hid hp
        clear hq hp
        go_wp2_with (go_at_call 138; refine HQ.out.mono ?_; rintro e w1 ⟨v1, rfl, rfl, hb1⟩)
        go_ret
        exact ⟨_, rfl, ⟨_, rfl, ⟨fun _ => List.any_eq_true.2 ⟨x, List.mem_of_getElem? HX.out, HP.out⟩, fun _ => Int.natCast_nonneg _⟩⟩, nx HBW.out hb1⟩
    · obtain rfl : k = xs.length := by omega
      rw [List.take_length] at HK
      go_wp2
      go_ret
      exact ⟨_, rfl, ⟨-1, rfl, ⟨fun h => absurd h (by decide), fun h => by rw [HK.out] at h; cases h⟩⟩, HBW.out⟩
theorem hasWb_any (q0 : Nat) (q1 : Nat) (p : Da → Bool) (A : Option Addr) (n c : Nat) (xs : List Da) (w : World) (h : RdE encDa w A n xs) (hn : n ≤ 1000000000)
    (hf : ∀ (s : DS) (x : Da) (W : World), Below w.heap.size w W → DRd W s x → Calls Try.prog 138 #[dsV s x, .pointer (some ⟨q0, 0, none⟩), .pointer (some ⟨q1, 0, none⟩)] W (RetP (fun v _ => v = .bool (p x)) W)) :
    Calls Try.prog 131 #[.slice A n c, .func (.func 138) #[] #[.pointer (some ⟨q0, 0, none⟩), .pointer (some ⟨q1, 0, none⟩)]] w (RetP (fun v _ => v = .bool (xs.any p)) w) := by
  have HQ := Lib.hid (indexWb_any q0 q1 p A n c xs w h hn hf)
  clear h hf
  go_enter Try.func131, Try.ntmps131
  go_wp2_with (go_at_call 153; refine HQ.out.mono ?_; rintro e w1 ⟨v1, rfl, ⟨i, rfl, hi⟩, hb1⟩; have HI := Lib.hid hi; clear hi)
  go_ret
  refine ⟨_, rfl, ?_, hb1⟩
  show Value.bool _ = Value.bool _
  congr 1
  rw [Bool.eq_iff_iff, decide_eq_true_iff, HI.out]
end Go.Proofs.Ytbjaphldncagjaa

/- rr: is data among others; are sets the same: the program's and the reference's. -/
namespace Go.Proofs.Ytbjaphldncagjaa
open Go.RowKit
set_option maxRecDepth 100000

/-- Is data among others? -/
def inD (xs : List Da) (d : Da) : Bool := xs.any fun x => sameD x d
/-- Is each of a list one of another? -/
def subD (a b : List Da) : Bool := a.all fun x => b.any fun y => sameD x y
def sameS (a b : List Da) : Bool := subD a b && subD b a
/-- A function in a variable of its own. -/
def FBox (w : World) (q : Nat) : Prop := w.cell? ⟨q, 0, none⟩ = some (.func (.func 96) #[] #[])

set_option maxHeartbeats 1000000 in
theorem amongC_any (q : Nat) (t s : DS) (d x : Da) (w : World) (hq : DBox w q t d) (hd : DRd w t d) (hx : DRd w s x) :
    Calls Try.prog 132 #[dsV s x, .pointer (some ⟨q, 0, none⟩)] w (RetP (fun v _ => v = .bool (sameD x d)) w) := by
  unfold dsV
  obtain ⟨w1, hw1⟩ : ∃ w1, w1 = w.alloc (.cells #[.slice s.A0 x.bytes.length s.c0, .slice s.A1 x.host.length s.c1, .slice s.A2 x.mail.length s.c2, .slice s.A3 x.nums.length s.c3, .slice s.A4 x.texts.length s.c4] 46) := ⟨_, rfl⟩
  have hb1 : Below w.heap.size w w1 := by rw [hw1]; exact bl.alloc (Nat.le_refl _) _
  have HB1 := Lib.hid hb1
  have BX : Hid (DBox w1 w.heap.size s x) := by show DBox _ _ _ _; rw [hw1]; exact DBox.made w s x _
  obtain ⟨a0, a1, a2, a3, a4⟩ := BX.out
  obtain ⟨b0, b1, b2, b3, b4⟩ := hq.below hb1
  have HD := Lib.hid (hd.below hb1)
  have HX := Lib.hid (hx.below hb1)
  clear hq hd hx hb1
  go_enter Try.func132, Try.ntmps132
  go_upto_region 1 with (fail)
  rw [← hw1]
  clear hw1
  go_wp2_with (go_at_call 96; refine (psame_any s t x d w1 HX.out HD.out).mono ?_; rintro e w2 ⟨v2, rfl, rfl, hb2⟩)
  go_ret
  exact ⟨_, rfl, rfl, nx HB1.out hb2⟩
set_option maxHeartbeats 1000000 in
theorem among_any (A : Option Addr) (n c : Nat) (xs : List Da) (t : DS) (d : Da) (w : World) (h : RdE encDa w A n xs) (hn : n ≤ 1000000000) (hd : DRd w t d) :
    Calls Try.prog 90 #[.slice A n c, dsV t d] w (RetP (fun v _ => v = .bool (inD xs d)) w) := by
  unfold dsV
  obtain ⟨w1, hw1⟩ : ∃ w1, w1 = w.alloc (.cells #[.slice t.A0 d.bytes.length t.c0, .slice t.A1 d.host.length t.c1, .slice t.A2 d.mail.length t.c2, .slice t.A3 d.nums.length t.c3, .slice t.A4 d.texts.length t.c4] 46) := ⟨_, rfl⟩
  have hb1 : Below w.heap.size w w1 := by rw [hw1]; exact bl.alloc (Nat.le_refl _) _
  have HB1 := Lib.hid hb1
  have BX : Hid (DBox w1 w.heap.size t d) := by show DBox _ _ _ _; rw [hw1]; exact DBox.made w t d _
  have hd1 := hd.below hb1
  have HC := Lib.hid (hasAm_any w.heap.size (fun x => sameD x d) A n c xs w1 (h.below hb1) hn (fun s x W hW hx => amongC_any w.heap.size t s d x W (BX.out.below hW) (hd1.below hW) hx))
  clear h hd hd1 hb1
  go_enter Try.func90, Try.ntmps90
  go_upto_region 1 with (fail)
  rw [← hw1]
  clear hw1
  go_wp2_with (go_at_call 131; refine HC.out.mono ?_; rintro e w2 ⟨v2, rfl, rfl, hb2⟩)
  go_ret
  exact ⟨_, rfl, rfl, nx HB1.out hb2⟩

set_option maxHeartbeats 1000000 in
theorem withinB_any (q0 q1 : Nat) (t s : DS) (d x : Da) (w : World) (hf : FBox w q0) (hq : DBox w q1 t d) (hd : DRd w t d) (hx : DRd w s x) :
    Calls Try.prog 138 #[dsV s x, .pointer (some ⟨q0, 0, none⟩), .pointer (some ⟨q1, 0, none⟩)] w (RetP (fun v _ => v = .bool (sameD d x)) w) := by
  unfold dsV
  obtain ⟨w1, hw1⟩ : ∃ w1, w1 = w.alloc (.cells #[.slice s.A0 x.bytes.length s.c0, .slice s.A1 x.host.length s.c1, .slice s.A2 x.mail.length s.c2, .slice s.A3 x.nums.length s.c3, .slice s.A4 x.texts.length s.c4] 46) := ⟨_, rfl⟩
  have hb1 : Below w.heap.size w w1 := by rw [hw1]; exact bl.alloc (Nat.le_refl _) _
  have HB1 := Lib.hid hb1
  have BX : Hid (DBox w1 w.heap.size s x) := by show DBox _ _ _ _; rw [hw1]; exact DBox.made w s x _
  obtain ⟨a0, a1, a2, a3, a4⟩ := BX.out
  obtain ⟨b0, b1, b2, b3, b4⟩ := hq.below hb1
  have f0 : w1.cell? ⟨q0, 0, none⟩ = some (.func (.func 96) #[] #[]) := below_cell hb1 hf
  have HD := Lib.hid (hd.below hb1)
  have HX := Lib.hid (hx.below hb1)
  clear hq hd hx hb1 hf
  go_enter Try.func138, Try.ntmps138
  go_upto_region 1 with (fail)
  rw [← hw1]
  clear hw1
  go_wp2_with (go_at_call 96; refine (psame_any t s d x w1 HD.out HX.out).mono ?_; rintro e w2 ⟨v2, rfl, rfl, hb2⟩)
  go_ret
  exact ⟨_, rfl, rfl, nx HB1.out hb2⟩
set_option maxHeartbeats 1000000 in
theorem withinA_any (q0 q1 : Nat) (A : Option Addr) (n c : Nat) (b : List Da) (s : DS) (x : Da) (w : World) (hl : w.cell? ⟨q0, 0, none⟩ = some (.slice A n c)) (h : RdE encDa w A n b) (hn : n ≤ 1000000000) (hf : FBox w q1) (hx : DRd w s x) :
    Calls Try.prog 137 #[dsV s x, .pointer (some ⟨q0, 0, none⟩), .pointer (some ⟨q1, 0, none⟩)] w (RetP (fun v _ => v = .bool (!(b.any fun y => sameD x y))) w) := by
  unfold dsV
  obtain ⟨w1, hw1⟩ : ∃ w1, w1 = w.alloc (.cells #[.slice s.A0 x.bytes.length s.c0, .slice s.A1 x.host.length s.c1, .slice s.A2 x.mail.length s.c2, .slice s.A3 x.nums.length s.c3, .slice s.A4 x.texts.length s.c4] 46) := ⟨_, rfl⟩
  have hb1 : Below w.heap.size w w1 := by rw [hw1]; exact bl.alloc (Nat.le_refl _) _
  have HB1 := Lib.hid hb1
  have BX : Hid (DBox w1 w.heap.size s x) := by show DBox _ _ _ _; rw [hw1]; exact DBox.made w s x _
  have hx1 := hx.below hb1
  have f1 : FBox w1 q1 := below_cell hb1 hf
  have HC := Lib.hid (hasWb_any q1 w.heap.size (fun y => sameD x y) A n c b w1 (h.below hb1) hn (fun t y W hW hy => withinB_any q1 w.heap.size s t x y W (below_cell hW f1) (BX.out.below hW) (hx1.below hW) hy))
  have l0 := below_cell hb1 hl
  clear h hx hx1 hb1 hf f1 hl
  go_enter Try.func137, Try.ntmps137
  go_upto_region 1 with (fail)
  rw [← hw1]
  clear hw1
  go_wp2_with (go_at_call 131; refine HC.out.mono ?_; rintro e w2 ⟨v2, rfl, rfl, hb2⟩)
  go_ret
  exact ⟨_, rfl, rfl, nx HB1.out hb2⟩
theorem any_not {α : Type} (l : List α) (p : α → Bool) : (!(l.any fun x => !(p x))) = l.all p := by
  induction l with
  | nil => rfl
  | cons x l ih => simp only [List.any_cons, List.all_cons, Bool.not_or, Bool.not_not, ih]
set_option maxHeartbeats 1000000 in
theorem within_any (A A' : Option Addr) (n c n' c' : Nat) (a b : List Da) (w : World) (ha : RdE encDa w A n a) (hb : RdE encDa w A' n' b) (hn : n ≤ 1000000000) (hn' : n' ≤ 1000000000) :
    Calls Try.prog 95 #[.slice A n c, .slice A' n' c', .func (.func 96) #[] #[]] w (RetP (fun v _ => v = .bool (subD a b)) w) := by
  obtain ⟨w0, hw0⟩ : ∃ w0, w0 = w.alloc (.cells #[.slice A' n' c'] 68) := ⟨_, rfl⟩
  have hb0 : Below w.heap.size w w0 := by rw [hw0]; exact bl.alloc (Nat.le_refl _) _
  have hz0 : w0.heap.size = w.heap.size + 1 := by rw [hw0]; simp
  have l0 : w0.cell? ⟨w.heap.size, 0, none⟩ = some (.slice A' n' c') := by rw [hw0]; exact new_cell w _ _ 0
  obtain ⟨w1, hw1⟩ : ∃ w1, w1 = w0.alloc (.cells #[.func (.func 96) #[] #[]] 73) := ⟨_, rfl⟩
  have hb1 : Below w0.heap.size w0 w1 := by rw [hw1]; exact bl.alloc (Nat.le_refl _) _
  have f1 : FBox w1 (w.heap.size + 1) := by unfold FBox; rw [← hz0, hw1]; exact new_cell w0 _ _ 0
  have l1 := below_cell hb1 l0
  have hbb := nx hb0 hb1
  have HBB := Lib.hid hbb
  have HC := Lib.hid (hasWa_any w.heap.size (w.heap.size + 1) (fun x => !(b.any fun y => sameD x y)) A n c a w1 (ha.below hbb) hn (fun s x W hW hx => withinA_any w.heap.size (w.heap.size + 1) A' n' c' b s x W (below_cell hW l1) ((hb.below hbb).below hW) hn' (below_cell hW f1) hx))
  have hz1 := hz0
  clear ha hb hb0 hb1 hz0 l0 f1 l1 hbb hz1
  go_enter Try.func95, Try.ntmps95
  go_upto_region 1 with (fail)
  rw [← hw0, ← hw1]
  clear hw0 hw1
  go_wp2_with (go_at_call 131; refine HC.out.mono ?_; rintro e w2 ⟨v2, rfl, rfl, hb2⟩)
  go_ret
  refine ⟨_, rfl, ?_, nx HBB.out hb2⟩
  show Value.bool _ = Value.bool _
  rw [any_not a fun x => b.any fun y => sameD x y]
  rfl
set_option maxHeartbeats 1000000 in
theorem sameS_any (A A' : Option Addr) (n c n' c' : Nat) (a b : List Da) (w : World) (ha : RdE encDa w A n a) (hb : RdE encDa w A' n' b) (hn : n ≤ 1000000000) (hn' : n' ≤ 1000000000) :
    Calls Try.prog 41 #[.slice A n c, .slice A' n' c'] w (RetP (fun v _ => v = .bool (sameS a b)) w) := by
  have HA := Lib.hid ha
  have HB := Lib.hid hb
  clear ha hb
  cases h1 : subD a b with
  | false =>
    have H1 := Lib.hid h1
    clear h1
    go_enter Try.func41, Try.ntmps41
    go_wp2_with (go_at_call 95; refine (within_any A A' n c n' c' a b w HA.out HB.out hn hn').mono ?_; rw [H1.out]; rintro e w1 ⟨v1, rfl, rfl, hb1⟩)
    go_ret
    exact ⟨_, rfl, by show Value.bool _ = Value.bool _; unfold sameS; rw [H1.out]; rfl, hb1⟩
  | true =>
    have H1 := Lib.hid h1
    clear h1
    go_enter Try.func41, Try.ntmps41
    go_wp2_with (first
      | (go_at_call 95; refine (within_any A' A n' c' n c b a w1 (HB.out.below hb1) (HA.out.below hb1) hn' hn).mono ?_; rintro e w2 ⟨v2, rfl, rfl, hb2⟩)
      | (go_at_call 95; refine (within_any A A' n c n' c' a b w HA.out HB.out hn hn').mono ?_; rw [H1.out]; rintro e w1 ⟨v1, rfl, rfl, hb1⟩)
      | fail)
    go_ret
    exact ⟨_, rfl, by show Value.bool _ = Value.bool _; unfold sameS; rw [H1.out]; rfl, nx hb1 hb2⟩
end Go.Proofs.Ytbjaphldncagjaa

/- The reference's In and SameSet. -/
namespace Go.Proofs.Ytbjaphldncagjaa
open Go.RowKit
set_option maxRecDepth 100000

/-- What a round of In reads. -/
theorem in_cells {w w' : World} {b p q : Nat} {s t : DS} {x d : Da} (h1 : DCells w b p s x) (h2 : DBox w q t d) (hb : Below w.heap.size w w') :
    w'.cell? ⟨b, p, none⟩ = some (.slice s.A0 x.bytes.length s.c0) ∧ w'.cell? ⟨b, p + 1, none⟩ = some (.slice s.A1 x.host.length s.c1) ∧ w'.cell? ⟨b, p + 2, none⟩ = some (.slice s.A2 x.mail.length s.c2) ∧ w'.cell? ⟨b, p + 3, none⟩ = some (.slice s.A3 x.nums.length s.c3) ∧ w'.cell? ⟨b, p + 4, none⟩ = some (.slice s.A4 x.texts.length s.c4) ∧ w'.cell? ⟨q, 0, none⟩ = some (.slice t.A0 d.bytes.length t.c0) ∧ w'.cell? ⟨q, 1, none⟩ = some (.slice t.A1 d.host.length t.c1) ∧ w'.cell? ⟨q, 2, none⟩ = some (.slice t.A2 d.mail.length t.c2) ∧ w'.cell? ⟨q, 3, none⟩ = some (.slice t.A3 d.nums.length t.c3) ∧ w'.cell? ⟨q, 4, none⟩ = some (.slice t.A4 d.texts.length t.c4) := by
  obtain ⟨a0, a1, a2, a3, a4⟩ := h1.below hb
  obtain ⟨b0, b1, b2, b3, b4⟩ := h2.below hb
  exact ⟨a0, a1, a2, a3, a4, b0, b1, b2, b3, b4⟩

set_option maxHeartbeats 4000000 in
theorem rin_any (A : Option Addr) (n c : Nat) (xs : List Da) (t : DS) (d : Da) (w : World) (h : RdE encDa w A n xs) (hn : n ≤ 1000000000) (hd : DRd w t d) :
    Calls Try.prog 93 #[.slice A n c, dsV t d] w (RetP (fun v _ => v = .bool (inD xs d)) w) := by
  have hl := h.len
  subst hl
  unfold dsV
  obtain ⟨w1, hw1⟩ : ∃ w1, w1 = w.alloc (.cells #[.slice t.A0 d.bytes.length t.c0, .slice t.A1 d.host.length t.c1, .slice t.A2 d.mail.length t.c2, .slice t.A3 d.nums.length t.c3, .slice t.A4 d.texts.length t.c4] 46) := ⟨_, rfl⟩
  have hb1 : Below w.heap.size w w1 := by rw [hw1]; exact bl.alloc (Nat.le_refl _) _
  have HB1 := Lib.hid hb1
  have BX : Hid (DBox w1 w.heap.size t d) := by show DBox _ _ _ _; rw [hw1]; exact DBox.made w t d _
  have H := Lib.hid (h.below hb1)
  have HD := Lib.hid (hd.below hb1)
  clear h hd hb1
  go_enter Try.func93, Try.ntmps93
  go_upto_region 1 with (fail)
  rw [← hw1]
  clear hw1
  generalize w.heap.size = q at BX ⊢
  go_wp2_with fail
  go_loopw [5] (fun iv wr => ∃ k : Nat, iv = .int .i64 k ∧ k ≤ xs.length ∧ Hid ((xs.take k).any (fun x => sameD x d) = false) ∧ Hid (Below w1.heap.size w1 wr)) (fun iv _ => xs.length - (intOf iv).toNat)
  case atStart => exact ⟨0, rfl, Nat.zero_le _, rfl, bl⟩
  case round =>
    obtain ⟨k, rfl, hk, HK, HBW⟩ := hrel
    by_cases hlt : k < xs.length
    · obtain ⟨x, hx⟩ : ∃ x, xs[k]? = some x := ⟨_, List.getElem?_eq_getElem hlt⟩
      obtain ⟨b, off, s, hA, _, hdi, hc⟩ := da_at H.out hx
      have HA := Lib.hid hA
      rw [hA]
      have p0 := in_cells hc BX.out HBW.out
      have p0' := in_cells hc BX.out (HBW.out.trans (bl.drew.mono HBW.out.size))
      have hxr : DRd wr.drew s x := ((hdi.rd (fun b hb => hb)).below HBW.out).below bl.drew
      have hdr : DRd wr.drew t d := (HD.out.below HBW.out).below bl.drew
      have HXR := Lib.hid hxr
      have HDR := Lib.hid hdr
      have HX := Lib.hid hx
      have HC := Lib.hid hc
      have hk1 : (0 : Int) ≤ (k : Int) := by omega
      have hk2 : (k : Int) < (xs.length : Int) := by omega
      clear hx hA hdi hc hxr hdr
      cases hp : sameD x d with
      | false =>
        have HP := Lib.hid hp
        clear hp
        go_upto_region 4 with (fail)
        go_region_held3 (fun w' => w'.cell? ⟨b, off + k * 5, none⟩ = some (.slice s.A0 x.bytes.length s.c0) ∧ w'.cell? ⟨b, off + k * 5 + 1, none⟩ = some (.slice s.A1 x.host.length s.c1) ∧ w'.cell? ⟨b, off + k * 5 + 2, none⟩ = some (.slice s.A2 x.mail.length s.c2) ∧ w'.cell? ⟨b, off + k * 5 + 3, none⟩ = some (.slice s.A3 x.nums.length s.c3) ∧ w'.cell? ⟨b, off + k * 5 + 4, none⟩ = some (.slice s.A4 x.texts.length s.c4) ∧ w'.cell? ⟨q, 0, none⟩ = some (.slice t.A0 d.bytes.length t.c0) ∧ w'.cell? ⟨q, 1, none⟩ = some (.slice t.A1 d.host.length t.c1) ∧ w'.cell? ⟨q, 2, none⟩ = some (.slice t.A2 d.mail.length t.c2) ∧ w'.cell? ⟨q, 3, none⟩ = some (.slice t.A3 d.nums.length t.c3) ∧ w'.cell? ⟨q, 4, none⟩ = some (.slice t.A4 d.texts.length t.c4))
          (first
            | with_reducible exact p0
            | with_reducible exact p0'
            | with_reducible exact p1
            | fail)
          (first
            | (go_at_call 94; refine (rsame_any s t x d wr.drew HXR.out HDR.out).mono ?_; rw [HP.out]; rintro e v1 ⟨u1, rfl, rfl, hb1⟩; have hB1 : Below w1.heap.size w1 v1 := nx HBW.out (bl.drew.trans hb1); have p1 := in_cells HC.out BX.out hB1)
            | fail)
        have HB2 := Lib.hid hB1
        clear p0 p0' p1
        go_wp2
        go_roundw
        case rel => exact ⟨k + 1, by go_num, by omega, any_take_succ HX.out HK.out HP.out, HB2⟩
        case measure => simp [intOf]; omega
      | true =>
        have HP := Lib.hid hp
        clear hp
        go_upto_region 4 with (fail)
        go_region_held3 (fun w' => w'.cell? ⟨b, off + k * 5, none⟩ = some (.slice s.A0 x.bytes.length s.c0) ∧ w'.cell? ⟨b, off + k * 5 + 1, none⟩ = some (.slice s.A1 x.host.length s.c1) ∧ w'.cell? ⟨b, off + k * 5 + 2, none⟩ = some (.slice s.A2 x.mail.length s.c2) ∧ w'.cell? ⟨b, off + k * 5 + 3, none⟩ = some (.slice s.A3 x.nums.length s.c3) ∧ w'.cell? ⟨b, off + k * 5 + 4, none⟩ = some (.slice s.A4 x.texts.length s.c4) ∧ w'.cell? ⟨q, 0, none⟩ = some (.slice t.A0 d.bytes.length t.c0) ∧ w'.cell? ⟨q, 1, none⟩ = some (.slice t.A1 d.host.length t.c1) ∧ w'.cell? ⟨q, 2, none⟩ = some (.slice t.A2 d.mail.length t.c2) ∧ w'.cell? ⟨q, 3, none⟩ = some (.slice t.A3 d.nums.length t.c3) ∧ w'.cell? ⟨q, 4, none⟩ = some (.slice t.A4 d.texts.length t.c4))
          (first
            | with_reducible exact p0
            | with_reducible exact p0'
            | with_reducible exact p1
            | fail)
          (first
            | (go_at_call 94; refine (rsame_any s t x d wr.drew HXR.out HDR.out).mono ?_; rw [HP.out]; rintro e v1 ⟨u1, rfl, rfl, hb1⟩; have hB1 : Below w1.heap.size w1 v1 := nx HBW.out (bl.drew.trans hb1); have p1 := in_cells HC.out BX.out hB1)
            | fail)
        have HB2 := Lib.hid hB1
        clear p0 p0' p1
        go_wp2
        go_ret
        exact ⟨_, rfl, by show Value.bool _ = Value.bool _; congr 1; exact (List.any_eq_true.2 ⟨x, List.mem_of_getElem? HX.out, HP.out⟩).symm, nx HB1.out HB2.out⟩
    · obtain rfl : k = xs.length := by omega
      rw [List.take_length] at HK
      go_wp2
      go_ret
      exact ⟨_, rfl, by show Value.bool _ = Value.bool _; congr 1; exact HK.out.symm, nx HB1.out HBW.out⟩

theorem all_take_succ {α : Type} {p : α → Bool} {xs : List α} {k : Nat} {x : α} (hx : xs[k]? = some x) (h : (xs.take k).all p = true) (hp : p x = true) : (xs.take (k + 1)).all p = true := by
  rw [List.take_add_one, hx, List.all_append, h, Option.toList_some]
  simp [hp]
theorem all_false {α : Type} {p : α → Bool} {xs : List α} {k : Nat} {x : α} (hx : xs[k]? = some x) (hp : p x = false) : xs.all p = false := List.all_eq_false.2 ⟨x, List.mem_of_getElem? hx, by rw [hp]; decide⟩
theorem in_sub (b : List Da) (x : Da) : inD b x = b.any fun y => sameD x y := by
  unfold inD
  congr 1
  funext y
  exact sameD_comm y x

set_option maxHeartbeats 4000000 in
theorem rsameSet_any (A A' : Option Addr) (n c n' c' : Nat) (a b : List Da) (w : World) (ha : RdE encDa w A n a) (hb : RdE encDa w A' n' b) (hn : n ≤ 1000000000) (hn' : n' ≤ 1000000000) :
    Calls Try.prog 42 #[.slice A n c, .slice A' n' c'] w (RetP (fun v _ => v = .bool (sameS a b)) w) := by
  have hl := ha.len
  have hl' := hb.len
  subst hl hl'
  have HA := Lib.hid ha
  have HB := Lib.hid hb
  clear ha hb
  go_enter Try.func42, Try.ntmps42
  go_wp2
  go_loopw [5] (fun iv wr => ∃ k : Nat, iv = .int .i64 k ∧ k ≤ a.length ∧ Hid ((a.take k).all (fun x => b.any fun y => sameD x y) = true) ∧ Hid (Below w.heap.size w wr)) (fun iv _ => a.length - (intOf iv).toNat)
  case atStart => exact ⟨0, rfl, Nat.zero_le _, rfl, bl⟩
  case round =>
    obtain ⟨k, rfl, hk, HK, HBW⟩ := hrel
    by_cases hlt : k < a.length
    · obtain ⟨x, hx⟩ : ∃ x, a[k]? = some x := ⟨_, List.getElem?_eq_getElem hlt⟩
      obtain ⟨b0, off, s, hA, _, hdi, hc⟩ := da_at HA.out hx
      have HAA := Lib.hid hA
      rw [hA]
      obtain ⟨d0, d1, d2, d3, d4⟩ := hc.below HBW.out
      have HXR := Lib.hid ((hdi.rd (fun b hb => hb)).below HBW.out)
      have HX := Lib.hid hx
      clear hx hA hdi hc
      cases hp : inD b x with
      | false =>
        have HP := Lib.hid hp
        clear hp
        go_wp2_with (go_at_call 93; refine (rin_any A' _ c' b s x wr (HB.out.below HBW.out) hn' HXR.out).mono ?_; rw [HP.out]; rintro e w2 ⟨v2, rfl, rfl, hb2⟩)
        go_ret
        exact ⟨_, rfl, by show Value.bool _ = Value.bool _; congr 1; unfold sameS subD; rw [all_false HX.out (by rw [← in_sub, HP.out])]; rfl, nx HBW.out hb2⟩
      | true =>
        have HP := Lib.hid hp
        clear hp
        go_wp2_with (go_at_call 93; refine (rin_any A' _ c' b s x wr (HB.out.below HBW.out) hn' HXR.out).mono ?_; rw [HP.out]; rintro e w2 ⟨v2, rfl, rfl, hb2⟩)
        go_roundw
        case rel => exact ⟨k + 1, by go_num, by omega, all_take_succ HX.out HK.out (by rw [← in_sub, HP.out]), nx HBW.out hb2⟩
        case measure => simp [intOf]; omega
    · obtain rfl : k = a.length := by omega
      rw [List.take_length] at HK
      go_wp2
      rename World => wa
      go_loopw [6] (fun iv wr => ∃ k : Nat, iv = .int .i64 k ∧ k ≤ b.length ∧ Hid ((b.take k).all (fun x => a.any fun y => sameD x y) = true) ∧ Hid (Below w.heap.size w wr)) (fun iv _ => b.length - (intOf iv).toNat)
      case atStart => exact ⟨0, rfl, Nat.zero_le _, rfl, HBW⟩
      case round =>
        obtain ⟨k, rfl, hk', HK2, HBW2⟩ := hrel
        by_cases hlt2 : k < b.length
        · obtain ⟨x, hx⟩ : ∃ x, b[k]? = some x := ⟨_, List.getElem?_eq_getElem hlt2⟩
          obtain ⟨b0, off, s, hA, _, hdi, hc⟩ := da_at HB.out hx
          have HAA := Lib.hid hA
          rw [hA]
          obtain ⟨d0, d1, d2, d3, d4⟩ := hc.below HBW2.out
          have HXR := Lib.hid ((hdi.rd (fun b hb => hb)).below HBW2.out)
          have HX := Lib.hid hx
          clear hx hA hdi hc
          cases hp : inD a x with
          | false =>
            have HP := Lib.hid hp
            clear hp
            go_wp2_with (go_at_call 93; refine (rin_any A _ c a s x wr (HA.out.below HBW2.out) hn HXR.out).mono ?_; rw [HP.out]; rintro e w2 ⟨v2, rfl, rfl, hb2⟩)
            go_ret
            exact ⟨_, rfl, by show Value.bool _ = Value.bool _; congr 1; unfold sameS subD; rw [HK.out, all_false HX.out (by rw [← in_sub, HP.out])]; rfl, nx HBW2.out hb2⟩
          | true =>
            have HP := Lib.hid hp
            clear hp
            go_wp2_with (go_at_call 93; refine (rin_any A _ c a s x wr (HA.out.below HBW2.out) hn HXR.out).mono ?_; rw [HP.out]; rintro e w2 ⟨v2, rfl, rfl, hb2⟩)
            go_roundw
            case rel => exact ⟨k + 1, by go_num, by omega, all_take_succ HX.out HK2.out (by rw [← in_sub, HP.out]), nx HBW2.out hb2⟩
            case measure => simp [intOf]; omega
        · obtain rfl : k = b.length := by omega
          rw [List.take_length] at HK2
          go_wp2
          go_ret
          exact ⟨_, rfl, by show Value.bool _ = Value.bool _; congr 1; unfold sameS subD; rw [HK.out, HK2.out]; rfl, HBW2.out⟩
end Go.Proofs.Ytbjaphldncagjaa

/- rr.Set: the set of a name and a type, with its least TTL; the program's and the reference's. -/
namespace Go.Proofs.Ytbjaphldncagjaa
open Go.RowKit
set_option maxRecDepth 100000

theorem elDa : ElT Try.prog 68 46 encDa 120 := ElT.mk Try.underlying68 (.agg #[.slice none 0 0, .slice none 0 0, .slice none 0 0, .slice none 0 0, .slice none 0 0]) 5 (by kernel_rfl) rfl rfl
/-- Is a record of a name and a type? -/
def isR (n : List (List UInt8)) (k : Int) (r : RR) : Bool := decide (r.type = k) && (decide (r.cls = 1) && decide (lowN r.name = lowN n))
def stepS (n : List (List UInt8)) (k : Int) (p : List Da × Int) (r : RR) : List Da × Int :=
  if isR n k r = true then (if inD p.1 r.data = true then p.1 else p.1 ++ [r.data], if p.1 = [] ∨ r.ttl < p.2 then r.ttl else p.2) else p
/-- The set of a name and a type, and its least TTL. -/
def setP (l : List RR) (n : List (List UInt8)) (k : Int) : List Da × Int := l.foldl (stepS n k) ([], 0)
theorem setP_take {l : List RR} {n : List (List UInt8)} {k : Int} {j : Nat} {r : RR} (h : l[j]? = some r) : setP (l.take (j + 1)) n k = stepS n k (setP (l.take j) n k) r := by
  unfold setP
  rw [List.take_add_one, h, Option.toList_some, List.foldl_append]
  rfl
theorem setP_len (l : List RR) (n : List (List UInt8)) (k : Int) : (setP l n k).1.length ≤ l.length := by
  refine snoc_ind (P := fun l => (setP l n k).1.length ≤ l.length) (Nat.le_refl _) (fun l r ih => ?_) l
  have e : setP (l ++ [r]) n k = stepS n k (setP l n k) r := by unfold setP; rw [List.foldl_append]; rfl
  rw [e]
  unfold stepS
  simp only [List.length_append, List.length_singleton]
  split
  · simp only
    split
    · omega
    · rw [List.length_append, List.length_singleton]; omega
  · omega
theorem stepS_no {n : List (List UInt8)} {k : Int} {p : List Da × Int} {r : RR} (h : isR n k r = false) : stepS n k p r = p := by unfold stepS; rw [h]; rfl
theorem stepS_yes {n : List (List UInt8)} {k : Int} {p : List Da × Int} {r : RR} (h : isR n k r = true) : stepS n k p r = (if inD p.1 r.data = true then p.1 else p.1 ++ [r.data], if p.1 = [] ∨ r.ttl < p.2 then r.ttl else p.2) := by unfold stepS; rw [if_pos h]


theorem NewE.rdE {α : Type} {E : Enc α} {e : TypeId} {B : Nat} {w : World} {v : Value} {xs : List α} (h : NewE E e B w v xs) : ∃ A c, v = .slice A xs.length c ∧ RdE E w A xs.length xs ∧ xs.length ≤ c ∧ c ≤ maxLen := by
  obtain ⟨S, ho, _⟩ := h
  exact ho.rdE


set_option maxHeartbeats 8000000 in
theorem pset_any (A A' : Option Addr) (n c n' c' : Nat) (xs : List RR) (ns : List (List UInt8)) (kind : Int) (w : World) (h : RdE encRR w A n xs) (hns : RdE encS w A' n' ns) (hn : n ≤ 1000000) (hn' : n' ≤ maxLen) (hL : ∀ r ∈ xs, Light9 r) :
    Calls Try.prog 37 #[.slice A n c, .slice A' n' c', .int .i64 kind] w (RetP (fun v w' => ∃ sv, v = .tuple #[sv, .int .i64 (setP xs ns kind).2] ∧ NewE encDa 46 w.heap.size w' sv (setP xs ns kind).1) w) := by
  have hl := h.len
  subst hl
  have H := Lib.hid h
  have HN := Lib.hid hns
  have HL := Lib.hid hL
  have HM := Lib.hid hn'
  clear h hns hL hn'
  go_enter Try.func37, Try.ntmps37
  go_wp2
  go_loopw [6, 7, 12] (fun sv tv iv wr => ∃ k : Nat, iv = .int .i64 k ∧ k ≤ xs.length ∧ Hid (NewE encDa 46 w.heap.size wr sv (setP (xs.take k) ns kind).1) ∧ tv = .int .i64 (setP (xs.take k) ns kind).2 ∧ Hid (Below w.heap.size w wr)) (fun _ _ iv _ => xs.length - (intOf iv).toNat)
  case atStart => exact ⟨0, rfl, Nat.zero_le _, NewE.nil _ _ _ _, rfl, bl⟩
  case round =>
    obtain ⟨k, rfl, hk, HOWN, rfl, HBW⟩ := hrel
    by_cases hlt : k < xs.length
    · obtain ⟨r, hr⟩ : ∃ r, xs[k]? = some r := ⟨_, List.getElem?_eq_getElem hlt⟩
      have HLR := Lib.hid (HL.out r (List.mem_of_getElem? hr))
      obtain ⟨b, off, s, hA, hb0, hri, hrc⟩ := rr_at H.out hr
      have HEQ := Lib.hid (setP_take (n := ns) (k := kind) hr)
      have HRI := Lib.hid hri
      have hAA := Lib.hid hA
      rw [hA]
      have hpl : (setP (xs.take k) ns kind).1.length ≤ k := by have h1 := setP_len (xs.take k) ns kind; rw [List.length_take] at h1; omega
      have HPL := Lib.hid hpl
      obtain ⟨d0, d1, d2, d3, d4, d5, d6, d7, d8⟩ := hrc.below HBW.out
      obtain ⟨w1, hw1⟩ : ∃ w1, w1 = wr.alloc (.cells #[.slice s.A r.name.length s.c, .int .i64 r.type, .int .i64 r.cls, .int .i64 r.ttl, .slice s.d.A0 r.data.bytes.length s.d.c0, .slice s.d.A1 r.data.host.length s.d.c1, .slice s.d.A2 r.data.mail.length s.d.c2, .slice s.d.A3 r.data.nums.length s.d.c3, .slice s.d.A4 r.data.texts.length s.d.c4] 48) := ⟨_, rfl⟩
      have hb1 : Below wr.heap.size wr w1 := by rw [hw1]; exact bl.alloc (Nat.le_refl _) _
      have HR1 : Hid (RRow w1 wr.heap.size s r) := by show RRow _ _ _ _; rw [hw1]; exact heap_alloc_new wr _
      have HB1 := Lib.hid hb1
      clear hr hri hrc hA hb0 hb1 hpl
      generalize setP (xs.take k) ns kind = p at HOWN HEQ HPL ⊢
      go_upto_region 4 with (fail)
      rw [← hw1]
      clear hw1 d0 d1 d2 d3 d4 d5 d6 d7 d8
      obtain ⟨x0, x1, x2, x3, x4, x5, x6, x7, x8⟩ := HR1.out.cells
      have HW1 := Lib.hid (nx HBW.out HB1.out)
      have HI1 := Lib.hid (HRI.out.below HW1.out (fun b hb => hb))
      have HLS : Hid (∀ b, ltS w b → b < w1.heap.size) := fun b (hb : b < w.heap.size) => Nat.lt_of_lt_of_le hb HW1.out.size
      by_cases ht : r.type = kind
      rotate_left
      · have HNO : Hid (isR ns kind r = false) := by show _ = _; unfold isR; rw [decide_eq_false ht]; rfl
        go_wp2
        go_roundw
        case rel => exact ⟨k + 1, by go_num, by omega, by rw [HEQ.out, stepS_no HNO.out]; exact HOWN.out.below HB1.out, by rw [HEQ.out, stepS_no HNO.out], HW1.out⟩
        case measure => simp [intOf]; omega
      by_cases hc : r.cls = 1
      rotate_left
      · have HNO : Hid (isR ns kind r = false) := by show _ = _; unfold isR; rw [decide_eq_false hc]; simp
        go_wp2
        go_roundw
        case rel => exact ⟨k + 1, by go_num, by omega, by rw [HEQ.out, stepS_no HNO.out]; exact HOWN.out.below HB1.out, by rw [HEQ.out, stepS_no HNO.out], HW1.out⟩
        case measure => simp [intOf]; omega
      by_cases he : lowN r.name = lowN ns
      rotate_left
      · have HNO : Hid (isR ns kind r = false) := by show _ = _; unfold isR; rw [decide_eq_false he]; simp
        have HE := Lib.hid (decide_eq_false he)
        clear he
        go_wp2_with ((go_at_call 89; refine (nequal_any s.A A' r.name.length s.c n' c' r.name ns w1 (HI1.out.n.mono HLS.out HLS.out) (HN.out.below HW1.out) (Nat.le_trans HI1.out.cn.1 HI1.out.cn.2) HM.out).mono ?_; rw [HE.out]; rintro e w2 ⟨v2, rfl, rfl, hb2⟩; obtain ⟨y0, y1, y2, y3, y4, y5, y6, y7, y8⟩ := (HR1.out.below hb2).cells))
        go_roundw
        case rel => exact ⟨k + 1, by go_num, by omega, by rw [HEQ.out, stepS_no HNO.out]; exact HOWN.out.below (nx HB1.out hb2), by rw [HEQ.out, stepS_no HNO.out], nx HW1.out hb2⟩
        case measure => simp [intOf]; omega
      have HYES : Hid (isR ns kind r = true) := by show _ = _; unfold isR; rw [decide_eq_true ht, decide_eq_true hc, decide_eq_true he]; rfl
      have HE := Lib.hid (decide_eq_true he)
      clear he
      by_cases hem : p.1 = []
      · have HEM := Lib.hid hem
        have HTT : Hid (p.1 = [] ∨ r.ttl < p.2) := .inl hem
        have hin : inD p.1 r.data = false := by rw [hem]; rfl
        clear HEM
        obtain ⟨pl, pt⟩ := p
        have hem2 : pl = [] := hem
        subst hem2
        clear hem
        obtain ⟨B, kb, hsv, hrb, _, _⟩ := HOWN.out.rdE
        have HRB := Lib.hid hrb
        clear hrb
        subst hsv
        have HIN : Hid (inD ([] : List Da) r.data = false) := hin
        clear hin
        go_wp2_with (first
          | ((with_reducible show wpList _ _ _ (⟨some 53, _, _, _, _, _⟩ :: _) _ _); refine wpL_pushE elDa rfl (.tmp 48) (.tmp 52) rfl w.heap.size (.slice B 0 kb) ([] : List Da) rfl hown _ r.data hrow ?hS rfl ?hb ?hl ?hbase ?_; rotate_right; intro v5 w5 hown5 hg5 hat5)
          | (go_at_call 91; refine (pown_any s.d r.data w3 ((HI1.out.d.below (nx hb2 hb3) HLS.out)) (fun b hb => Nat.lt_of_lt_of_le (HLS.out b hb) (nx hb2 hb3).size) HLR.out.2).mono ?_; rintro e w4 ⟨v4, rfl, ⟨s4, rfl, hd4⟩, hb4⟩; unfold dsV; have hb04 := nx (nx HB1.out (nx hb2 hb3)) hb4; obtain ⟨S, hoS, hSS⟩ := HOWN.out; have hown := OwnE.below hoS hb04; have hlto := hoS.lt; have hrow : encDa.R (geS w3.heap.size w4) w4 [.slice s4.A0 r.data.bytes.length s4.c0, .slice s4.A1 r.data.host.length s4.c1, .slice s4.A2 r.data.mail.length s4.c2, .slice s4.A3 r.data.nums.length s4.c3, .slice s4.A4 r.data.texts.length s4.c4] r.data := ⟨s4, rfl, hd4⟩; have hz3 : wr.heap.size ≤ w3.heap.size := (nx HB1.out (nx hb2 hb3)).size; have hbase0 := HBW.out.size)
          | (go_at_call 90; refine (among_any B 0 kb ([] : List Da) s.d r.data w2 (HRB.out.below (nx HB1.out hb2)) (by have := HPL.out; omega) ((HI1.out.d.rd HLS.out).below hb2)).mono ?_; rw [HIN.out]; rintro e w3 ⟨v3, rfl, rfl, hb3⟩; obtain ⟨z0, z1, z2, z3, z4, z5, z6, z7, z8⟩ := ((HR1.out.below hb2).below hb3).cells)
          | (go_at_call 89; refine (nequal_any s.A A' r.name.length s.c n' c' r.name ns w1 (HI1.out.n.mono HLS.out HLS.out) (HN.out.below HW1.out) (Nat.le_trans HI1.out.cn.1 HI1.out.cn.2) HM.out).mono ?_; rw [HE.out]; rintro e w2 ⟨v2, rfl, rfl, hb2⟩; obtain ⟨y0, y1, y2, y3, y4, y5, y6, y7, y8⟩ := (HR1.out.below hb2).cells)
          | fail)
        · go_roundw
          case rel =>
            have hs : stepS ns kind (([], pt) : List Da × Int) r = (([] : List Da) ++ [r.data], r.ttl) := by rw [stepS_yes HYES.out]; show (if inD [] r.data = true then ([] : List Da) else [] ++ [r.data], if ([] : List Da) = [] ∨ r.ttl < pt then r.ttl else pt) = _; rw [HIN.out, if_pos (Or.inl rfl)]; rfl
            exact ⟨k + 1, by go_num, by omega, by rw [HEQ.out, hs]; exact ⟨_, hown5, fun b hb => hb.elim (hSS b) (fun h => by have := h.1; omega)⟩, by rw [HEQ.out, hs], ((nx HBW.out hb04)).grown hg5 (by have := hb04.size; omega) (fun j hj => (hown.lt j hj).1)⟩
          case measure => simp [intOf]; omega
        case hS =>
          intro b hb
          refine ⟨hb.2, fun he => ?_⟩
          have := (hlto b he.symm).2
          have := hb.1
          omega
        case hb => have := HPL.out; show (([] : List Da).length + 1) * 120 ≤ _; decide
        case hl => have := HPL.out; show ([] : List Da).length + 1 ≤ _; unfold maxLen; decide
        case hbase => have := hb04.size; omega
      · have HEM := Lib.hid hem
        have hlen : (0 : Int) < (p.1.length : Int) := by have := List.length_pos_iff.2 hem; omega
        have hlen2 : ¬ (p.1.length : Int) = 0 := by omega
        have hlen3 : ((p.1.length : Int) == 0) = false := by rw [beq_eq_false_iff_ne]; exact hlen2
        by_cases htt : r.ttl < p.2
        · have HTT : Hid (p.1 = [] ∨ r.ttl < p.2) := .inr htt
          clear hem
          cases hin : inD p.1 r.data with
          | false =>
            obtain ⟨B, kb, hsv, hrb, _, _⟩ := HOWN.out.rdE
            have HRB := Lib.hid hrb
            clear hrb
            subst hsv
            have HIN : Hid (inD p.1 r.data = false) := hin
            clear hin
            go_wp2_with (first
              | ((with_reducible show wpList _ _ _ (⟨some 53, _, _, _, _, _⟩ :: _) _ _); refine wpL_pushE elDa rfl (.tmp 48) (.tmp 52) rfl w.heap.size (.slice B p.1.length kb) p.1 rfl hown _ r.data hrow ?hS rfl ?hb ?hl ?hbase ?_; rotate_right; intro v5 w5 hown5 hg5 hat5)
              | (go_at_call 91; refine (pown_any s.d r.data w3 ((HI1.out.d.below (nx hb2 hb3) HLS.out)) (fun b hb => Nat.lt_of_lt_of_le (HLS.out b hb) (nx hb2 hb3).size) HLR.out.2).mono ?_; rintro e w4 ⟨v4, rfl, ⟨s4, rfl, hd4⟩, hb4⟩; unfold dsV; have hb04 := nx (nx HB1.out (nx hb2 hb3)) hb4; obtain ⟨S, hoS, hSS⟩ := HOWN.out; have hown := OwnE.below hoS hb04; have hlto := hoS.lt; have hrow : encDa.R (geS w3.heap.size w4) w4 [.slice s4.A0 r.data.bytes.length s4.c0, .slice s4.A1 r.data.host.length s4.c1, .slice s4.A2 r.data.mail.length s4.c2, .slice s4.A3 r.data.nums.length s4.c3, .slice s4.A4 r.data.texts.length s4.c4] r.data := ⟨s4, rfl, hd4⟩; have hz3 : wr.heap.size ≤ w3.heap.size := (nx HB1.out (nx hb2 hb3)).size; have hbase0 := HBW.out.size)
              | (go_at_call 90; refine (among_any B _ kb p.1 s.d r.data w2 (HRB.out.below (nx HB1.out hb2)) (by have := HPL.out; omega) ((HI1.out.d.rd HLS.out).below hb2)).mono ?_; rw [HIN.out]; rintro e w3 ⟨v3, rfl, rfl, hb3⟩; obtain ⟨z0, z1, z2, z3, z4, z5, z6, z7, z8⟩ := ((HR1.out.below hb2).below hb3).cells)
              | (go_at_call 89; refine (nequal_any s.A A' r.name.length s.c n' c' r.name ns w1 (HI1.out.n.mono HLS.out HLS.out) (HN.out.below HW1.out) (Nat.le_trans HI1.out.cn.1 HI1.out.cn.2) HM.out).mono ?_; rw [HE.out]; rintro e w2 ⟨v2, rfl, rfl, hb2⟩; obtain ⟨y0, y1, y2, y3, y4, y5, y6, y7, y8⟩ := (HR1.out.below hb2).cells)
              | fail)
            · go_roundw
              case rel =>
                have hs : stepS ns kind p r = (p.1 ++ [r.data], r.ttl) := by rw [stepS_yes HYES.out]; show (if inD p.1 r.data = true then _ else _, _) = _; rw [HIN.out, if_pos HTT.out]; rfl
                exact ⟨k + 1, by go_num, by omega, by rw [HEQ.out, hs]; exact ⟨_, hown5, fun b hb => hb.elim (hSS b) (fun h => by have := h.1; omega)⟩, by rw [HEQ.out, hs], ((nx HBW.out hb04)).grown hg5 (by have := hb04.size; omega) (fun j hj => (hown.lt j hj).1)⟩
              case measure => simp [intOf]; omega
            case hS =>
              intro b hb
              refine ⟨hb.2, fun he => ?_⟩
              have := (hlto b he.symm).2
              have := hb.1
              omega
            case hb => have := HPL.out; show (p.1.length + 1) * 120 ≤ _; omega
            case hl => have := HPL.out; show p.1.length + 1 ≤ _; unfold maxLen; omega
            case hbase => have := hb04.size; omega
          | true =>
            obtain ⟨B, kb, hsv, hrb, _, _⟩ := HOWN.out.rdE
            have HRB := Lib.hid hrb
            clear hrb
            subst hsv
            have HIN : Hid (inD p.1 r.data = true) := hin
            clear hin
            go_wp2_with (first
              | (go_at_call 90; refine (among_any B _ kb p.1 s.d r.data w2 (HRB.out.below (nx HB1.out hb2)) (by have := HPL.out; omega) ((HI1.out.d.rd HLS.out).below hb2)).mono ?_; rw [HIN.out]; rintro e w3 ⟨v3, rfl, rfl, hb3⟩; obtain ⟨z0, z1, z2, z3, z4, z5, z6, z7, z8⟩ := ((HR1.out.below hb2).below hb3).cells)
              | (go_at_call 89; refine (nequal_any s.A A' r.name.length s.c n' c' r.name ns w1 (HI1.out.n.mono HLS.out HLS.out) (HN.out.below HW1.out) (Nat.le_trans HI1.out.cn.1 HI1.out.cn.2) HM.out).mono ?_; rw [HE.out]; rintro e w2 ⟨v2, rfl, rfl, hb2⟩; obtain ⟨y0, y1, y2, y3, y4, y5, y6, y7, y8⟩ := (HR1.out.below hb2).cells)
              | fail)
            go_roundw
            case rel =>
              have hs : stepS ns kind p r = (p.1, r.ttl) := by rw [stepS_yes HYES.out, HIN.out, if_pos HTT.out]; rfl
              exact ⟨k + 1, by go_num, by omega, by rw [HEQ.out, hs]; exact HOWN.out.below (nx HB1.out (nx hb2 hb3)), by rw [HEQ.out, hs], nx HW1.out (nx hb2 hb3)⟩
            case measure => simp [intOf]; omega
        · have HTT : Hid (¬ (p.1 = [] ∨ r.ttl < p.2)) := fun h => h.elim HEM.out htt
          have horr : ¬ (((p.1.length : Int) == 0) = true ∨ r.ttl < p.2) := by rw [hlen3]; exact fun h => h.elim (fun h => Bool.noConfusion h) htt
          clear hem
          cases hin : inD p.1 r.data with
          | false =>
            obtain ⟨B, kb, hsv, hrb, _, _⟩ := HOWN.out.rdE
            have HRB := Lib.hid hrb
            clear hrb
            subst hsv
            have HIN : Hid (inD p.1 r.data = false) := hin
            clear hin
            go_wp2_with (first
              | ((with_reducible show wpList _ _ _ (⟨some 53, _, _, _, _, _⟩ :: _) _ _); refine wpL_pushE elDa rfl (.tmp 48) (.tmp 52) rfl w.heap.size (.slice B p.1.length kb) p.1 rfl hown _ r.data hrow ?hS rfl ?hb ?hl ?hbase ?_; rotate_right; intro v5 w5 hown5 hg5 hat5)
              | (go_at_call 91; refine (pown_any s.d r.data w3 ((HI1.out.d.below (nx hb2 hb3) HLS.out)) (fun b hb => Nat.lt_of_lt_of_le (HLS.out b hb) (nx hb2 hb3).size) HLR.out.2).mono ?_; rintro e w4 ⟨v4, rfl, ⟨s4, rfl, hd4⟩, hb4⟩; unfold dsV; have hb04 := nx (nx HB1.out (nx hb2 hb3)) hb4; obtain ⟨S, hoS, hSS⟩ := HOWN.out; have hown := OwnE.below hoS hb04; have hlto := hoS.lt; have hrow : encDa.R (geS w3.heap.size w4) w4 [.slice s4.A0 r.data.bytes.length s4.c0, .slice s4.A1 r.data.host.length s4.c1, .slice s4.A2 r.data.mail.length s4.c2, .slice s4.A3 r.data.nums.length s4.c3, .slice s4.A4 r.data.texts.length s4.c4] r.data := ⟨s4, rfl, hd4⟩; have hz3 : wr.heap.size ≤ w3.heap.size := (nx HB1.out (nx hb2 hb3)).size; have hbase0 := HBW.out.size)
              | (go_at_call 90; refine (among_any B _ kb p.1 s.d r.data w2 (HRB.out.below (nx HB1.out hb2)) (by have := HPL.out; omega) ((HI1.out.d.rd HLS.out).below hb2)).mono ?_; rw [HIN.out]; rintro e w3 ⟨v3, rfl, rfl, hb3⟩; obtain ⟨z0, z1, z2, z3, z4, z5, z6, z7, z8⟩ := ((HR1.out.below hb2).below hb3).cells)
              | (go_at_call 89; refine (nequal_any s.A A' r.name.length s.c n' c' r.name ns w1 (HI1.out.n.mono HLS.out HLS.out) (HN.out.below HW1.out) (Nat.le_trans HI1.out.cn.1 HI1.out.cn.2) HM.out).mono ?_; rw [HE.out]; rintro e w2 ⟨v2, rfl, rfl, hb2⟩; obtain ⟨y0, y1, y2, y3, y4, y5, y6, y7, y8⟩ := (HR1.out.below hb2).cells)
              | fail)
            · go_roundw
              case rel =>
                have hs : stepS ns kind p r = (p.1 ++ [r.data], p.2) := by rw [stepS_yes HYES.out]; show (if inD p.1 r.data = true then _ else _, _) = _; rw [HIN.out, if_neg HTT.out]; rfl
                exact ⟨k + 1, by go_num, by omega, by rw [HEQ.out, hs]; exact ⟨_, hown5, fun b hb => hb.elim (hSS b) (fun h => by have := h.1; omega)⟩, by rw [HEQ.out, hs], ((nx HBW.out hb04)).grown hg5 (by have := hb04.size; omega) (fun j hj => (hown.lt j hj).1)⟩
              case measure => simp [intOf]; omega
            case hS =>
              intro b hb
              refine ⟨hb.2, fun he => ?_⟩
              have := (hlto b he.symm).2
              have := hb.1
              omega
            case hb => have := HPL.out; show (p.1.length + 1) * 120 ≤ _; omega
            case hl => have := HPL.out; show p.1.length + 1 ≤ _; unfold maxLen; omega
            case hbase => have := hb04.size; omega
          | true =>
            obtain ⟨B, kb, hsv, hrb, _, _⟩ := HOWN.out.rdE
            have HRB := Lib.hid hrb
            clear hrb
            subst hsv
            have HIN : Hid (inD p.1 r.data = true) := hin
            clear hin
            go_wp2_with (first
              | (go_at_call 90; refine (among_any B _ kb p.1 s.d r.data w2 (HRB.out.below (nx HB1.out hb2)) (by have := HPL.out; omega) ((HI1.out.d.rd HLS.out).below hb2)).mono ?_; rw [HIN.out]; rintro e w3 ⟨v3, rfl, rfl, hb3⟩; obtain ⟨z0, z1, z2, z3, z4, z5, z6, z7, z8⟩ := ((HR1.out.below hb2).below hb3).cells)
              | (go_at_call 89; refine (nequal_any s.A A' r.name.length s.c n' c' r.name ns w1 (HI1.out.n.mono HLS.out HLS.out) (HN.out.below HW1.out) (Nat.le_trans HI1.out.cn.1 HI1.out.cn.2) HM.out).mono ?_; rw [HE.out]; rintro e w2 ⟨v2, rfl, rfl, hb2⟩; obtain ⟨y0, y1, y2, y3, y4, y5, y6, y7, y8⟩ := (HR1.out.below hb2).cells)
              | fail)
            go_roundw
            case rel =>
              have hs : stepS ns kind p r = (p.1, p.2) := by rw [stepS_yes HYES.out, HIN.out, if_neg HTT.out]; rfl
              exact ⟨k + 1, by go_num, by omega, by rw [HEQ.out, hs]; exact HOWN.out.below (nx HB1.out (nx hb2 hb3)), by rw [HEQ.out, hs], nx HW1.out (nx hb2 hb3)⟩
            case measure => simp [intOf]; omega
    · obtain rfl : k = xs.length := by omega
      rw [List.take_length] at HOWN ⊢
      go_wp2
      go_ret2
      exact ⟨_, rfl, ⟨_, rfl, HOWN.out⟩, HBW.out⟩

theorem setR_push {w wr : World} {v : Value} {l : List Da} {d : Da} (h : OwnE encDa 46 (orS (ltS w) (ltS w)) wr w.heap.size v (l ++ [d])) : OwnE encDa 46 (ltS w) wr w.heap.size v (l ++ [d]) := by
  have hS : orS (ltS w) (ltS w) = ltS w := by funext b; simp [orS]
  rwa [hS] at h

/-- A row of the call's own; its elements' slices lie in what was there. -/
def SetR (w wr : World) (v : Value) (l : List Da) : Prop := OwnE encDa 46 (ltS w) wr w.heap.size v l
theorem SetR.rd {w wr : World} {v : Value} {l : List Da} (h : SetR w wr v l) : ∃ A c, v = .slice A l.length c ∧ RdE encDa wr A l.length l ∧ l.length ≤ c ∧ c ≤ maxLen := OwnE.rdE h
theorem SetR.below {w wr w' : World} {v : Value} {l : List Da} (h : SetR w wr v l) (hb : Below wr.heap.size wr w') : SetR w w' v l := OwnE.below h hb


set_option maxHeartbeats 8000000 in
theorem rset_any (A A' : Option Addr) (n c n' c' : Nat) (xs : List RR) (ns : List (List UInt8)) (kind : Int) (w : World) (h : RdE encRR w A n xs) (hns : RdE encS w A' n' ns) (hn : n ≤ 1000000) (hn' : n' ≤ maxLen) (hL : ∀ r ∈ xs, Light9 r) :
    Calls Try.prog 39 #[.slice A n c, .slice A' n' c', .int .i64 kind] w (RetP (fun v w' => ∃ sv, v = .tuple #[sv, .int .i64 (setP xs ns kind).2] ∧ SetR w w' sv (setP xs ns kind).1) w) := by
  have hl := h.len
  subst hl
  have H := Lib.hid h
  have HN := Lib.hid hns
  have HL := Lib.hid hL
  have HM := Lib.hid hn'
  clear h hns hL hn'
  go_enter Try.func39, Try.ntmps39
  go_wp2
  go_loopw [8, 9, 10, 11] (fun sv tv av iv wr => ∃ k : Nat, iv = .int .i64 k ∧ k ≤ xs.length ∧ Hid (SetR w wr sv (setP (xs.take k) ns kind).1) ∧ tv = .int .i64 (setP (xs.take k) ns kind).2 ∧ av = .bool (decide ((setP (xs.take k) ns kind).1 ≠ [])) ∧ Hid (Below w.heap.size w wr)) (fun _ _ _ iv _ => xs.length - (intOf iv).toNat)
  case atStart => exact ⟨0, rfl, Nat.zero_le _, ⟨[], World.ownsRow_nil _ _ _ _, fun i x h => by simp [setP] at h, fun b hb => ⟨hb, by simp [Value.ownBlock]⟩⟩, rfl, rfl, bl⟩
  case round =>
    obtain ⟨k, rfl, hk, HOWN, rfl, rfl, HBW⟩ := hrel
    by_cases hlt : k < xs.length
    · obtain ⟨r, hr⟩ : ∃ r, xs[k]? = some r := ⟨_, List.getElem?_eq_getElem hlt⟩
      have HLR := Lib.hid (HL.out r (List.mem_of_getElem? hr))
      obtain ⟨b, off, s, hA, hb0, hri, hrc⟩ := rr_at H.out hr
      have HEQ := Lib.hid (setP_take (n := ns) (k := kind) hr)
      have HRI := Lib.hid hri
      have hAA := Lib.hid hA
      rw [hA]
      have hpl : (setP (xs.take k) ns kind).1.length ≤ k := by have h1 := setP_len (xs.take k) ns kind; rw [List.length_take] at h1; omega
      have HPL := Lib.hid hpl
      obtain ⟨d0, d1, d2, d3, d4, d5, d6, d7, d8⟩ := hrc.below HBW.out
      obtain ⟨w1, hw1⟩ : ∃ w1, w1 = wr.alloc (.cells #[.slice s.A r.name.length s.c, .int .i64 r.type, .int .i64 r.cls, .int .i64 r.ttl, .slice s.d.A0 r.data.bytes.length s.d.c0, .slice s.d.A1 r.data.host.length s.d.c1, .slice s.d.A2 r.data.mail.length s.d.c2, .slice s.d.A3 r.data.nums.length s.d.c3, .slice s.d.A4 r.data.texts.length s.d.c4] 48) := ⟨_, rfl⟩
      have hb1 : Below wr.heap.size wr w1 := by rw [hw1]; exact bl.alloc (Nat.le_refl _) _
      have HR1 : Hid (RRow w1 wr.heap.size s r) := by show RRow _ _ _ _; rw [hw1]; exact heap_alloc_new wr _
      have HB1 := Lib.hid hb1
      clear hr hri hrc hA hb0 hb1 hpl
      generalize setP (xs.take k) ns kind = p at HOWN HEQ HPL ⊢
      go_upto_region 8 with (fail)
      rw [← hw1]
      clear hw1 d0 d1 d2 d3 d4 d5 d6 d7 d8
      obtain ⟨x0, x1, x2, x3, x4, x5, x6, x7, x8⟩ := HR1.out.cells
      have HW1 := Lib.hid (nx HBW.out HB1.out)
      have HI1 := Lib.hid (HRI.out.below HW1.out (fun b hb => hb))
      have HLS : Hid (∀ b, ltS w b → b < w1.heap.size) := fun b (hb : b < w.heap.size) => Nat.lt_of_lt_of_le hb HW1.out.size
      by_cases hc : r.cls = 1
      rotate_left
      · have HNO : Hid (isR ns kind r = false) := by show _ = _; unfold isR; rw [decide_eq_false hc]; simp
        go_wp2
        go_roundw
        case rel => exact ⟨k + 1, by go_num, by omega, by rw [HEQ.out, stepS_no HNO.out]; exact HOWN.out.below HB1.out, by rw [HEQ.out, stepS_no HNO.out], by rw [HEQ.out, stepS_no HNO.out]; simp, HW1.out⟩
        case measure => simp [intOf]; omega
      by_cases ht : r.type = kind
      rotate_left
      · have HNO : Hid (isR ns kind r = false) := by show _ = _; unfold isR; rw [decide_eq_false ht]; rfl
        go_wp2
        go_roundw
        case rel => exact ⟨k + 1, by go_num, by omega, by rw [HEQ.out, stepS_no HNO.out]; exact HOWN.out.below HB1.out, by rw [HEQ.out, stepS_no HNO.out], by rw [HEQ.out, stepS_no HNO.out]; simp, HW1.out⟩
        case measure => simp [intOf]; omega
      by_cases he : lowN r.name = lowN ns
      rotate_left
      · have HNO : Hid (isR ns kind r = false) := by show _ = _; unfold isR; rw [decide_eq_false he]; simp
        have HE := Lib.hid (decide_eq_false he)
        clear he
        go_wp2_with ((go_at_call 92; refine (requal_any s.A A' r.name.length s.c n' c' r.name ns w1 (HI1.out.n.mono HLS.out HLS.out) (HN.out.below HW1.out) (Nat.le_trans HI1.out.cn.1 HI1.out.cn.2) HM.out).mono ?_; rw [HE.out]; rintro e w2 ⟨v2, rfl, rfl, hb2⟩; obtain ⟨y0, y1, y2, y3, y4, y5, y6, y7, y8⟩ := (HR1.out.below hb2).cells))
        go_roundw
        case rel => exact ⟨k + 1, by go_num, by omega, by rw [HEQ.out, stepS_no HNO.out]; exact HOWN.out.below (nx HB1.out hb2), by rw [HEQ.out, stepS_no HNO.out], by rw [HEQ.out, stepS_no HNO.out]; simp, nx HW1.out hb2⟩
        case measure => simp [intOf]; omega
      have HYES : Hid (isR ns kind r = true) := by show _ = _; unfold isR; rw [decide_eq_true ht, decide_eq_true hc, decide_eq_true he]; rfl
      have HE := Lib.hid (decide_eq_true he)
      clear he
      by_cases hem : p.1 = []
      · have HEM := Lib.hid hem
        have HTT : Hid (p.1 = [] ∨ r.ttl < p.2) := .inl hem
        have hin : inD p.1 r.data = false := by rw [hem]; rfl
        clear HEM
        obtain ⟨pl, pt⟩ := p
        have hem2 : pl = [] := hem
        subst hem2
        clear hem
        rw [decide_eq_false (show ¬ (([], pt) : List Da × Int).1 ≠ [] from fun h => h rfl)]
        obtain ⟨B, kb, hsv, hrb, _, _⟩ := HOWN.out.rd
        have HRB := Lib.hid hrb
        clear hrb
        subst hsv
        have HIN : Hid (inD ([] : List Da) r.data = false) := hin
        clear hin
        go_wp2_with (first
          | ((with_reducible show wpList _ _ _ (⟨some 57, _, _, _, _, _⟩ :: _) _ _); refine wpL_pushE elDa rfl (.tmp 53) (.tmp 56) rfl w.heap.size (.slice B 0 kb) ([] : List Da) rfl hown _ r.data hrow ?hS rfl ?hb ?hl ?hbase ?_; rotate_right; intro v5 w5 hown5 hg5 hat5)
          | (go_at_call 93; refine (rin_any B 0 kb ([] : List Da) s.d r.data w2 (HRB.out.below (nx HB1.out hb2)) (by have := HPL.out; omega) ((HI1.out.d.rd HLS.out).below hb2)).mono ?_; rw [HIN.out]; rintro e w3 ⟨v3, rfl, rfl, hb3⟩; obtain ⟨z0, z1, z2, z3, z4, z5, z6, z7, z8⟩ := ((HR1.out.below hb2).below hb3).cells; have hb03 := nx HB1.out (nx hb2 hb3); have hown := OwnE.below HOWN.out hb03; have hlto := HOWN.out.lt; have hrow : encDa.R (ltS w) w3 [.slice s.d.A0 r.data.bytes.length s.d.c0, .slice s.d.A1 r.data.host.length s.d.c1, .slice s.d.A2 r.data.mail.length s.d.c2, .slice s.d.A3 r.data.nums.length s.d.c3, .slice s.d.A4 r.data.texts.length s.d.c4] r.data := ⟨s.d, rfl, HRI.out.d.keep (fun b hb => (nx HBW.out hb03).block b hb)⟩; have hbase0 := HBW.out.size)
          | (go_at_call 92; refine (requal_any s.A A' r.name.length s.c n' c' r.name ns w1 (HI1.out.n.mono HLS.out HLS.out) (HN.out.below HW1.out) (Nat.le_trans HI1.out.cn.1 HI1.out.cn.2) HM.out).mono ?_; rw [HE.out]; rintro e w2 ⟨v2, rfl, rfl, hb2⟩; obtain ⟨y0, y1, y2, y3, y4, y5, y6, y7, y8⟩ := (HR1.out.below hb2).cells)
          | fail)
        · go_roundw
          case rel =>
            have hs : stepS ns kind (([], pt) : List Da × Int) r = (([] : List Da) ++ [r.data], r.ttl) := by rw [stepS_yes HYES.out]; show (if inD [] r.data = true then ([] : List Da) else [] ++ [r.data], if ([] : List Da) = [] ∨ r.ttl < pt then r.ttl else pt) = _; rw [HIN.out, if_pos (Or.inl rfl)]; rfl
            exact ⟨k + 1, by go_num, by omega, by rw [HEQ.out, hs]; exact setR_push hown5, by rw [HEQ.out, hs], by rw [HEQ.out, hs]; exact congrArg Value.bool (by simp), ((nx HBW.out hb03)).grown hg5 (by have := hb03.size; omega) (fun j hj => (hown.lt j hj).1)⟩
          case measure => simp [intOf]; omega
        case hS =>
          intro b hb
          refine ⟨Nat.lt_of_lt_of_le hb (nx HBW.out hb03).size, fun he => ?_⟩
          have h1 := (hlto b he.symm).1
          have h2 : b < w.heap.size := hb
          omega
        case hb => have := HPL.out; show (([] : List Da).length + 1) * 120 ≤ _; decide
        case hl => have := HPL.out; show ([] : List Da).length + 1 ≤ _; unfold maxLen; decide
        case hbase => have := hb03.size; omega
      · have HEM := Lib.hid hem
        have hlen : (0 : Int) < (p.1.length : Int) := by have := List.length_pos_iff.2 hem; omega
        have hlen2 : ¬ (p.1.length : Int) = 0 := by omega
        rw [decide_eq_true hem]
        clear hlen hlen2
        by_cases htt : r.ttl < p.2
        · have HTT : Hid (p.1 = [] ∨ r.ttl < p.2) := .inr htt
          clear hem
          cases hin : inD p.1 r.data with
          | false =>
            obtain ⟨B, kb, hsv, hrb, _, _⟩ := HOWN.out.rd
            have HRB := Lib.hid hrb
            clear hrb
            subst hsv
            have HIN : Hid (inD p.1 r.data = false) := hin
            clear hin
            go_wp2_with (first
              | ((with_reducible show wpList _ _ _ (⟨some 57, _, _, _, _, _⟩ :: _) _ _); refine wpL_pushE elDa rfl (.tmp 53) (.tmp 56) rfl w.heap.size (.slice B p.1.length kb) p.1 rfl hown _ r.data hrow ?hS rfl ?hb ?hl ?hbase ?_; rotate_right; intro v5 w5 hown5 hg5 hat5)
              | (go_at_call 93; refine (rin_any B _ kb p.1 s.d r.data w2 (HRB.out.below (nx HB1.out hb2)) (by have := HPL.out; omega) ((HI1.out.d.rd HLS.out).below hb2)).mono ?_; rw [HIN.out]; rintro e w3 ⟨v3, rfl, rfl, hb3⟩; obtain ⟨z0, z1, z2, z3, z4, z5, z6, z7, z8⟩ := ((HR1.out.below hb2).below hb3).cells; have hb03 := nx HB1.out (nx hb2 hb3); have hown := OwnE.below HOWN.out hb03; have hlto := HOWN.out.lt; have hrow : encDa.R (ltS w) w3 [.slice s.d.A0 r.data.bytes.length s.d.c0, .slice s.d.A1 r.data.host.length s.d.c1, .slice s.d.A2 r.data.mail.length s.d.c2, .slice s.d.A3 r.data.nums.length s.d.c3, .slice s.d.A4 r.data.texts.length s.d.c4] r.data := ⟨s.d, rfl, HRI.out.d.keep (fun b hb => (nx HBW.out hb03).block b hb)⟩; have hbase0 := HBW.out.size)
              | (go_at_call 92; refine (requal_any s.A A' r.name.length s.c n' c' r.name ns w1 (HI1.out.n.mono HLS.out HLS.out) (HN.out.below HW1.out) (Nat.le_trans HI1.out.cn.1 HI1.out.cn.2) HM.out).mono ?_; rw [HE.out]; rintro e w2 ⟨v2, rfl, rfl, hb2⟩; obtain ⟨y0, y1, y2, y3, y4, y5, y6, y7, y8⟩ := (HR1.out.below hb2).cells)
              | fail)
            · go_roundw
              case rel =>
                have hs : stepS ns kind p r = (p.1 ++ [r.data], r.ttl) := by rw [stepS_yes HYES.out]; show (if inD p.1 r.data = true then _ else _, _) = _; rw [HIN.out, if_pos HTT.out]; rfl
                exact ⟨k + 1, by go_num, by omega, by rw [HEQ.out, hs]; exact setR_push hown5, by rw [HEQ.out, hs], by rw [HEQ.out, hs]; exact congrArg Value.bool (by simp), ((nx HBW.out hb03)).grown hg5 (by have := hb03.size; omega) (fun j hj => (hown.lt j hj).1)⟩
              case measure => simp [intOf]; omega
            case hS =>
              intro b hb
              refine ⟨Nat.lt_of_lt_of_le hb (nx HBW.out hb03).size, fun he => ?_⟩
              have h1 := (hlto b he.symm).1
              have h2 : b < w.heap.size := hb
              omega
            case hb => have := HPL.out; show (p.1.length + 1) * 120 ≤ _; omega
            case hl => have := HPL.out; show p.1.length + 1 ≤ _; unfold maxLen; omega
            case hbase => have := hb03.size; omega
          | true =>
            obtain ⟨B, kb, hsv, hrb, _, _⟩ := HOWN.out.rd
            have HRB := Lib.hid hrb
            clear hrb
            subst hsv
            have HIN : Hid (inD p.1 r.data = true) := hin
            clear hin
            go_wp2_with (first
              | (go_at_call 93; refine (rin_any B _ kb p.1 s.d r.data w2 (HRB.out.below (nx HB1.out hb2)) (by have := HPL.out; omega) ((HI1.out.d.rd HLS.out).below hb2)).mono ?_; rw [HIN.out]; rintro e w3 ⟨v3, rfl, rfl, hb3⟩; obtain ⟨z0, z1, z2, z3, z4, z5, z6, z7, z8⟩ := ((HR1.out.below hb2).below hb3).cells)
              | (go_at_call 92; refine (requal_any s.A A' r.name.length s.c n' c' r.name ns w1 (HI1.out.n.mono HLS.out HLS.out) (HN.out.below HW1.out) (Nat.le_trans HI1.out.cn.1 HI1.out.cn.2) HM.out).mono ?_; rw [HE.out]; rintro e w2 ⟨v2, rfl, rfl, hb2⟩; obtain ⟨y0, y1, y2, y3, y4, y5, y6, y7, y8⟩ := (HR1.out.below hb2).cells)
              | fail)
            go_roundw
            case rel =>
              have hs : stepS ns kind p r = (p.1, r.ttl) := by rw [stepS_yes HYES.out, HIN.out, if_pos HTT.out]; rfl
              exact ⟨k + 1, by go_num, by omega, by rw [HEQ.out, hs]; exact HOWN.out.below (nx HB1.out (nx hb2 hb3)), by rw [HEQ.out, hs], by rw [HEQ.out, hs]; exact congrArg Value.bool (by simpa using HEM.out), nx HW1.out (nx hb2 hb3)⟩
            case measure => simp [intOf]; omega
        · have HTT : Hid (¬ (p.1 = [] ∨ r.ttl < p.2)) := fun h => h.elim HEM.out htt
          clear hem
          cases hin : inD p.1 r.data with
          | false =>
            obtain ⟨B, kb, hsv, hrb, _, _⟩ := HOWN.out.rd
            have HRB := Lib.hid hrb
            clear hrb
            subst hsv
            have HIN : Hid (inD p.1 r.data = false) := hin
            clear hin
            go_wp2_with (first
              | ((with_reducible show wpList _ _ _ (⟨some 57, _, _, _, _, _⟩ :: _) _ _); refine wpL_pushE elDa rfl (.tmp 53) (.tmp 56) rfl w.heap.size (.slice B p.1.length kb) p.1 rfl hown _ r.data hrow ?hS rfl ?hb ?hl ?hbase ?_; rotate_right; intro v5 w5 hown5 hg5 hat5)
              | (go_at_call 93; refine (rin_any B _ kb p.1 s.d r.data w2 (HRB.out.below (nx HB1.out hb2)) (by have := HPL.out; omega) ((HI1.out.d.rd HLS.out).below hb2)).mono ?_; rw [HIN.out]; rintro e w3 ⟨v3, rfl, rfl, hb3⟩; obtain ⟨z0, z1, z2, z3, z4, z5, z6, z7, z8⟩ := ((HR1.out.below hb2).below hb3).cells; have hb03 := nx HB1.out (nx hb2 hb3); have hown := OwnE.below HOWN.out hb03; have hlto := HOWN.out.lt; have hrow : encDa.R (ltS w) w3 [.slice s.d.A0 r.data.bytes.length s.d.c0, .slice s.d.A1 r.data.host.length s.d.c1, .slice s.d.A2 r.data.mail.length s.d.c2, .slice s.d.A3 r.data.nums.length s.d.c3, .slice s.d.A4 r.data.texts.length s.d.c4] r.data := ⟨s.d, rfl, HRI.out.d.keep (fun b hb => (nx HBW.out hb03).block b hb)⟩; have hbase0 := HBW.out.size)
              | (go_at_call 92; refine (requal_any s.A A' r.name.length s.c n' c' r.name ns w1 (HI1.out.n.mono HLS.out HLS.out) (HN.out.below HW1.out) (Nat.le_trans HI1.out.cn.1 HI1.out.cn.2) HM.out).mono ?_; rw [HE.out]; rintro e w2 ⟨v2, rfl, rfl, hb2⟩; obtain ⟨y0, y1, y2, y3, y4, y5, y6, y7, y8⟩ := (HR1.out.below hb2).cells)
              | fail)
            · go_roundw
              case rel =>
                have hs : stepS ns kind p r = (p.1 ++ [r.data], p.2) := by rw [stepS_yes HYES.out]; show (if inD p.1 r.data = true then _ else _, _) = _; rw [HIN.out, if_neg HTT.out]; rfl
                exact ⟨k + 1, by go_num, by omega, by rw [HEQ.out, hs]; exact setR_push hown5, by rw [HEQ.out, hs], by rw [HEQ.out, hs]; exact congrArg Value.bool (by simp), ((nx HBW.out hb03)).grown hg5 (by have := hb03.size; omega) (fun j hj => (hown.lt j hj).1)⟩
              case measure => simp [intOf]; omega
            case hS =>
              intro b hb
              refine ⟨Nat.lt_of_lt_of_le hb (nx HBW.out hb03).size, fun he => ?_⟩
              have h1 := (hlto b he.symm).1
              have h2 : b < w.heap.size := hb
              omega
            case hb => have := HPL.out; show (p.1.length + 1) * 120 ≤ _; omega
            case hl => have := HPL.out; show p.1.length + 1 ≤ _; unfold maxLen; omega
            case hbase => have := hb03.size; omega
          | true =>
            obtain ⟨B, kb, hsv, hrb, _, _⟩ := HOWN.out.rd
            have HRB := Lib.hid hrb
            clear hrb
            subst hsv
            have HIN : Hid (inD p.1 r.data = true) := hin
            clear hin
            go_wp2_with (first
              | (go_at_call 93; refine (rin_any B _ kb p.1 s.d r.data w2 (HRB.out.below (nx HB1.out hb2)) (by have := HPL.out; omega) ((HI1.out.d.rd HLS.out).below hb2)).mono ?_; rw [HIN.out]; rintro e w3 ⟨v3, rfl, rfl, hb3⟩; obtain ⟨z0, z1, z2, z3, z4, z5, z6, z7, z8⟩ := ((HR1.out.below hb2).below hb3).cells)
              | (go_at_call 92; refine (requal_any s.A A' r.name.length s.c n' c' r.name ns w1 (HI1.out.n.mono HLS.out HLS.out) (HN.out.below HW1.out) (Nat.le_trans HI1.out.cn.1 HI1.out.cn.2) HM.out).mono ?_; rw [HE.out]; rintro e w2 ⟨v2, rfl, rfl, hb2⟩; obtain ⟨y0, y1, y2, y3, y4, y5, y6, y7, y8⟩ := (HR1.out.below hb2).cells)
              | fail)
            go_roundw
            case rel =>
              have hs : stepS ns kind p r = (p.1, p.2) := by rw [stepS_yes HYES.out, HIN.out, if_neg HTT.out]; rfl
              exact ⟨k + 1, by go_num, by omega, by rw [HEQ.out, hs]; exact HOWN.out.below (nx HB1.out (nx hb2 hb3)), by rw [HEQ.out, hs], by rw [HEQ.out, hs]; exact congrArg Value.bool (by simpa using HEM.out), nx HW1.out (nx hb2 hb3)⟩
            case measure => simp [intOf]; omega
    · obtain rfl : k = xs.length := by omega
      rw [List.take_length] at HOWN ⊢
      go_wp2
      go_ret2
      exact ⟨_, rfl, ⟨_, rfl, HOWN.out⟩, HBW.out⟩
end Go.Proofs.Ytbjaphldncagjaa
