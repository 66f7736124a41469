/- A part of the proof of this claim (part 5 of 16): contracts of callees and plain facts, each with its own conditions before its statement. -/
import Derived.Deep.RegionLaw
import Derived.Test.YtgejnljpdfjgpaaDoorGK1
import Derived.Test.YtgejnljpdfjgpaaDoorGK4
set_option linter.unusedVariables false
set_option linter.unusedSimpArgs false
/- A row of relations that the call owns: its block's cells, and of each the schemes and rows that it leads to. -/
namespace Go.Proofs.YtgejnljpdfjgpaaDoor.Q
open Go.RowKit Go.Proofs Go.Proofs.YtgejnljpdfjgpaaDoorW.PrintWords Go.Proofs.YtgejnljpdfjgpaaDoorW.PrintLast Go.Proofs.YtgejnljpdfjgpaaDoorW.PrintMore
set_option linter.unusedVariables false
set_option linter.unusedSimpArgs false

theorem RowsOwn.at {W : World} {base g n cap : Nat} {es : List El} (h : RowsOwn W base (.slice (some ⟨g, 0, none⟩) n cap) es) : RowsAt W base g cap es := by
  obtain ⟨h1, h2, h3⟩ := h
  rcases h1.2 with ⟨e, _⟩ | ⟨g1, c1, cur, e, hge, hb, hle, hcm, hsz, htk⟩
  · cases e
  · injection e with e1 e2 e3
    injection e1 with e1
    injection e1 with e1
    subst e1 e3
    exact ⟨hge, ⟨cur, hb, by simpa using hsz, by simpa using htk⟩, hle, hcm, h2, h3⟩
theorem RowsAt.rows {W : World} {base g cap : Nat} {es : List El} (h : RowsAt W base g cap es) : RowsOwn W base (.slice (some ⟨g, 0, none⟩) es.length cap) es := by
  obtain ⟨cur, hb, hsz, htk⟩ := h.blk
  exact ⟨⟨by simp, .inr ⟨g, cap, cur, rfl, h.ge, hb, h.len, h.cap, by simpa using hsz, by simpa using htk⟩⟩, h.own, h.apart⟩

abbrev RelEl := Value × Value × List Int × List El
def relOf (r : RelEl) : S36 := ⟨r.2.2.1, r.2.2.2.map (·.2)⟩
/-- The relation is the call's own. -/
def OwnRel (W : World) (base : Nat) (r : RelEl) : Prop := OwnEl W base (r.1, r.2.2.1) ∧ RowsOwn W base r.2.1 r.2.2.2
def zeroRel : RelEl := (.slice none 0 0, .slice none 0 0, [], [])
theorem OwnRel.zero (W : World) (base : Nat) : OwnRel W base zeroRel := ⟨OwnEl.nil _ _, RowsOwn.nil _ _⟩
theorem OwnRel.below {W W' : World} {base : Nat} {r : RelEl} (h : OwnRel W base r) (hb : Below W.heap.size W W') : OwnRel W' base r := ⟨h.1.below hb, h.2.below hb⟩
theorem OwnRel.lower {W : World} {b base : Nat} {r : RelEl} (h : OwnRel W b r) (hle : base ≤ b) : OwnRel W base r := ⟨h.1.lower hle, h.2.lower hle⟩
theorem OwnRel.apart {W W' : World} {base ob : Nat} {r : RelEl} (h : OwnRel W base r) (hg : W.grownBy W' (some ob)) (hr : RelBlk W ob) : OwnRel W' base r := by
  refine ⟨h.1.apart hg hr, own_other h.2.1 hg ?_, fun p hp => (h.2.2.1 p hp).apart hg hr, h.2.2.2⟩
  right
  intro e
  obtain ⟨cl, hcl⟩ := own_typed h.2.1 ob e
  obtain ⟨cs, e⟩ := hr _ hcl
  injection e with _ e
  exact absurd e (by decide)
theorem RowsOwn.reads {W : World} {base : Nat} {v : Value} {es : List El} (h : RowsOwn W base v es) : ∃ A c, v = .slice A es.length c ∧ es.length ≤ c ∧ (Kd.slice 3 (Kd.int .i64)).C W A es.length (es.map (·.2)) := by
  obtain ⟨A, c, e⟩ := own_slice h.1
  have hle : es.length ≤ c := by have := h.1; rw [e] at this; exact own_le this
  refine ⟨A, c, e, hle, ?_⟩
  rcases h.1.2 with ⟨e2, h0⟩ | ⟨g, cap, cur, e2, _⟩
  · rw [e] at e2
    injection e2 with e2 _ _
    subst e2
    have : es = [] := List.length_eq_zero_iff.1 h0
    subst this
    exact Kd.C_nil _ _
  · rw [e] at e2
    injection e2 with e2 _ e3
    subst e2
    subst e
    obtain ⟨A2, c2, e4, _, hC⟩ := Kd.R_reads (Kd.S_R h.at.S)
    injection e4 with e4
    subst e4
    simpa using hC

structure RelsAt (W : World) (base g : Nat) (rs : List RelEl) : Prop where
  ge : base ≤ g
  max : rs.length ≤ maxLen
  blk : ∃ cur, W.heap[g]? = some (.cells cur 36 (0, 0)) ∧ cur.size = rs.length * 2 ∧ ∀ i r, rs[i]? = some r → cur[i * 2]? = some r.1 ∧ cur[i * 2 + 1]? = some r.2.1
  own : ∀ r ∈ rs, OwnRel W base r

theorem RelsAt.below {W W' : World} {base g : Nat} {rs : List RelEl} (h : RelsAt W base g rs) (hb : Below W.heap.size W W') : RelsAt W' base g rs := by
  obtain ⟨cur, h1, h2⟩ := h.blk
  exact ⟨h.ge, h.max, ⟨cur, blk_below h1 hb, h2⟩, fun p hp => (h.own p hp).below hb⟩
theorem RelsAt.relBlk {W : World} {base g : Nat} {rs : List RelEl} (h : RelsAt W base g rs) : RelBlk W g := by
  obtain ⟨cur, h1, _⟩ := h.blk
  exact RelBlk.of h1
theorem RelsAt.lt {W : World} {base g : Nat} {rs : List RelEl} (h : RelsAt W base g rs) : g < W.heap.size := by
  obtain ⟨cur, h1, _⟩ := h.blk
  exact blk_lt h1
theorem RelsAt.cell {W : World} {base g : Nat} {rs : List RelEl} (h : RelsAt W base g rs) {i : Nat} {r : RelEl} (hi : rs[i]? = some r) :
    W.cell? ⟨g, i * 2, none⟩ = some r.1 ∧ W.cell? ⟨g, i * 2 + 1, none⟩ = some r.2.1 ∧ W.frozen? ⟨g, i * 2, none⟩ = false ∧ W.frozen? ⟨g, i * 2 + 1, none⟩ = false := by
  obtain ⟨cur, h1, _, h3⟩ := h.blk
  obtain ⟨h4, h5⟩ := h3 i r hi
  exact ⟨(blk_cell h1 _).trans h4, (blk_cell h1 _).trans h5, blk_frozen h1 _, blk_frozen h1 _⟩
/-- Another relation of the call's own is stored. -/
theorem RelsAt.put {W : World} {base g : Nat} {rs : List RelEl} (h : RelsAt W base g rs) (i : Nat) (hi : i < rs.length) {r : RelEl} (hr : OwnRel W base r) :
    RelsAt ((W.setCell ⟨g, i * 2, none⟩ r.1).setCell ⟨g, i * 2 + 1, none⟩ r.2.1) base g (rs.set i r) := by
  obtain ⟨cur, h1, h2, h3⟩ := h.blk
  have hg := (grown_setCell W g (i * 2) r.1).trans (grown_setCell _ g (i * 2 + 1) r.2.1)
  refine ⟨h.ge, by simpa using h.max, ⟨_, blk_set (blk_set h1 _ _) _ _, by simp [h2], ?_⟩, ?_⟩
  · intro j q hq
    rw [List.getElem?_set] at hq
    by_cases hij : i = j
    · subst hij
      rw [if_pos rfl, if_pos hi] at hq
      obtain rfl := Option.some.inj hq
      constructor
      · rw [Array.getElem?_setIfInBounds_ne (by omega), Array.getElem?_setIfInBounds_self_of_lt (by omega)]
      · rw [Array.getElem?_setIfInBounds_self_of_lt (by simp; omega)]
    · rw [if_neg hij] at hq
      obtain ⟨h4, h5⟩ := h3 j q hq
      constructor
      · rw [Array.getElem?_setIfInBounds_ne (by omega), Array.getElem?_setIfInBounds_ne (by omega), h4]
      · rw [Array.getElem?_setIfInBounds_ne (by omega), Array.getElem?_setIfInBounds_ne (by omega), h5]
  · intro q hq
    rcases List.mem_or_eq_of_mem_set hq with hq | rfl
    · exact (h.own q hq).apart hg (RelBlk.of h1)
    · exact hr.apart hg (RelBlk.of h1)
theorem RelsAt.made (w : World) (n : Nat) (hn : n ≤ maxLen) : RelsAt (w.alloc (.cells (madeCells #[.slice none 0 0, .slice none 0 0] (n * 2)) 36)) w.heap.size w.heap.size (List.replicate n zeroRel) := by
  refine ⟨Nat.le_refl _, by simpa using hn, ⟨_, heap_alloc_new w _, by simp [size_madeCells], ?_⟩, fun r hr => by rw [List.eq_of_mem_replicate hr]; exact OwnRel.zero _ _⟩
  intro i r hi
  obtain ⟨h1, h2⟩ := List.getElem?_eq_some_iff.1 hi
  simp at h1 h2
  subst h2
  constructor
  · rw [Array.getElem?_eq_getElem (by simp [size_madeCells]; omega)]
    simp [madeCells, zeroRel]
  · rw [Array.getElem?_eq_getElem (by simp [size_madeCells]; omega)]
    simp [madeCells, zeroRel]
theorem add0 (g n : Nat) : (⟨g, 0, none⟩ : Addr).add n = ⟨g, n, none⟩ := by
  unfold Addr.add
  split <;> simp_all
theorem RelsAt.reads {W : World} {base g : Nat} {rs : List RelEl} (h : RelsAt W base g rs) : Kd.C k36 W (some ⟨g, 0, none⟩) rs.length (rs.map relOf) := by
  refine ⟨by simp, h.max, fun hpos => ⟨⟨g, 0, none⟩, rfl, ?_⟩⟩
  intro j p hp
  rw [List.getElem?_map] at hp
  obtain ⟨r, hr, rfl⟩ := Option.map_eq_some_iff.1 hp
  obtain ⟨hc1, hc2, _, _⟩ := h.cell hr
  obtain ⟨h1, h2⟩ := h.own r (List.mem_of_getElem? hr)
  obtain ⟨A1, c1, e1, l1, g1⟩ := h1.reads
  obtain ⟨A2, c2, e2, l2, g2⟩ := h2.reads
  have e1 : r.1 = .slice A1 r.2.2.1.length c1 := e1
  refine ⟨[r.1, r.2.1], rfl, ?_, ?_⟩
  · rw [e1, e2]
    have hl : r.2.2.2.length = (relOf r).f1.length := by simp [relOf]
    rw [hl] at l2 g2 ⊢
    exact k36_mk W (relOf r) l1 g1 l2 g2
  · intro i u hu
    have hsz : k36.sz = 2 := rfl
    rw [hsz]
    match i, hu with
    | 0, hu => simp at hu; subst hu; rw [add0]; exact hc1
    | 1, hu => simp at hu; subst hu; rw [add0]; exact hc2
    | n + 2, hu => simp at hu


/-- One relation's rows turn, in a block of their own. -/
theorem RelsAt.turn {W W' : World} {base g gr : Nat} {rs : List RelEl} {i : Nat} {r0 : RelEl} {es : List El} {cur : Array Value} (h : RelsAt W base g rs) (hi : rs[i]? = some r0) (hg : W.heap[gr]? = some (.cells cur 25 (0, 0)))
    (hs : ∀ k, k < W.heap.size → k ≠ gr → W'.heap[k]? = W.heap[k]?) (hne : ∀ j r, rs[j]? = some r → j ≠ i → r.2.1.ownBlock ≠ some gr) (hrow : RowsOwn W' base r0.2.1 es) :
    RelsAt W' base g (rs.set i (r0.1, r0.2.1, r0.2.2.1, es)) := by
  obtain ⟨cb, h1, h2, h3⟩ := h.blk
  have hgg : g ≠ gr := fun e => by
    subst e
    rw [h1] at hg
    injection hg with hg
    injection hg with _ hg
    exact absurd hg (by decide)
  have hil : i < rs.length := (List.getElem?_eq_some_iff.1 hi).1
  have hel : ∀ p : El, OwnEl W base p → OwnEl W' base p := fun p hp => hp.step hg (by decide) hs
  refine ⟨h.ge, by simpa using h.max, ⟨cb, by rw [hs g (blk_lt h1) hgg, h1], by simpa using h2, ?_⟩, ?_⟩
  · intro j q hq
    rw [List.getElem?_set] at hq
    by_cases hij : i = j
    · subst hij
      rw [if_pos rfl, if_pos hil] at hq
      obtain rfl := Option.some.inj hq
      exact h3 i r0 hi
    · rw [if_neg hij] at hq
      exact h3 j q hq
  · intro q hq
    obtain ⟨j, hj⟩ := List.mem_iff_getElem?.1 hq
    rw [List.getElem?_set] at hj
    by_cases hij : i = j
    · subst hij
      rw [if_pos rfl, if_pos hil] at hj
      obtain rfl := Option.some.inj hj
      exact ⟨hel _ (h.own r0 (List.mem_of_getElem? hi)).1, hrow⟩
    · rw [if_neg hij] at hj
      have ho := h.own q (List.mem_of_getElem? hj)
      have hq2 := hne j q hj (fun e => hij e.symm)
      refine ⟨hel _ ho.1, own_move ho.2.1 (fun k hk => ?_), fun p hp => hel p (ho.2.2.1 p hp), ho.2.2.2⟩
      exact hs k (own_lt ho.2.1 k hk) (fun e => hq2 (by rw [hk, e]))

theorem OwnEl.of_own {W : World} {base : Nat} {v : Value} {xs : List Int} (h : W.ownsRow base 3 1 v xs.length (xs.map (Value.int .i64))) : OwnEl W base (v, xs) :=
  ⟨fun k hk => hk.symm, xs.map (Value.int .i64), h, Kd.reps_scalar xs⟩
theorem OwnEl.own {W : World} {base : Nat} {v : Value} {xs : List Int} (h : OwnEl W base (v, xs)) : W.ownsRow base 3 1 v xs.length (xs.map (Value.int .i64)) := by
  obtain ⟨_, inner, ho, hl, hr⟩ := h
  have hl : inner.length = xs.length * 1 := hl
  have : inner = xs.map (Value.int .i64) := by
    apply List.ext_getElem
    · simp [hl]
    · intro i h1 h2
      have hx : xs[i]? = some (xs[i]'(by simpa using h2)) := List.getElem?_eq_getElem _
      have h3 := hr i _ hx
      have h3 : (inner.drop (i * 1)).take 1 = [Value.int .i64 (xs[i]'(by simpa using h2))] := h3
      rw [Nat.mul_one, List.drop_eq_getElem_cons h1] at h3
      simp only [List.take_succ_cons, List.take_zero] at h3
      injection h3 with h3 _
      rw [h3]
      simp
  rw [← this]
  exact ho
/-- What the call owns lives on where an elder block turns. -/
theorem OwnEl.older {W W' : World} {base B : Nat} {p : El} (h : OwnEl W base p) (hg : W.grownBy W' (some B)) (hB : B < base) : OwnEl W' base p :=
  Kd.R_grown1 h rfl hg (fun e => by
    obtain ⟨inn, ho⟩ := Kd.R_own h
    have := own_base ho B e.symm
    omega)
theorem RowsOwn.older {W W' : World} {base B : Nat} {v : Value} {es : List El} (h : RowsOwn W base v es) (hg : W.grownBy W' (some B)) (hB : B < base) : RowsOwn W' base v es :=
  ⟨own_other h.1 hg (.inr fun e => by have := own_base h.1 B e; omega), fun p hp => (h.2.1 p hp).older hg hB, h.2.2⟩
theorem OwnEl.elder {W W' : World} {base : Nat} {row : Option Nat} {p : El} (h : OwnEl W base p) (hg : W.grownBy W' row) (hB : ∀ k, row = some k → k < base) : OwnEl W' base p := by
  cases row with
  | none => exact h.grown hg (fun g hg => by cases hg)
  | some B => exact h.older hg (hB B rfl)
theorem RowsOwn.elder {W W' : World} {base : Nat} {row : Option Nat} {v : Value} {es : List El} (h : RowsOwn W base v es) (hg : W.grownBy W' row) (hB : ∀ k, row = some k → k < base) : RowsOwn W' base v es :=
  ⟨own_move h.1 (fun k hk => hg.block k (own_lt h.1 k hk) (fun e => by have h1 := own_base h.1 k hk; have h2 := hB k e.symm; omega)), fun p hp => (h.2.1 p hp).elder hg hB, h.2.2⟩
theorem OwnRel.older {W W' : World} {base B : Nat} {r : RelEl} (h : OwnRel W base r) (hg : W.grownBy W' (some B)) (hB : B < base) : OwnRel W' base r := ⟨h.1.older hg hB, h.2.older hg hB⟩
theorem RelsAt.older {W W' : World} {base g B : Nat} {rs : List RelEl} (h : RelsAt W base g rs) (hg : W.grownBy W' (some B)) (hB : B < base) : RelsAt W' base g rs := by
  obtain ⟨cur, h1, h2⟩ := h.blk
  exact ⟨h.ge, h.max, ⟨cur, blk_grown h1 hg (fun e => by have := h.ge; injection e; omega), h2⟩, fun p hp => (h.own p hp).older hg hB⟩
theorem RelsAt.lower {W : World} {b base g : Nat} {rs : List RelEl} (h : RelsAt W b g rs) (hle : base ≤ b) : RelsAt W base g rs :=
  ⟨Nat.le_trans hle h.ge, h.max, h.blk, fun p hp => (h.own p hp).lower hle⟩

end Go.Proofs.YtgejnljpdfjgpaaDoor.Q
/- pass.Up's literal: a parent has what its child has. -/
namespace Go.Proofs.YtgejnljpdfjgpaaDoor.Q
open Go.RowKit Go.Proofs Go.Proofs.YtgejnljpdfjgpaaDoorW.PrintWords Go.Proofs.YtgejnljpdfjgpaaDoorW.PrintLast Go.Proofs.YtgejnljpdfjgpaaDoorW.PrintMore
set_option linter.unusedVariables false
set_option linter.unusedSimpArgs false

/-- What a relation must be to be gone through. -/
structure RelGood (x : S36) : Prop where
  sch : x.f0.length < 17179869184
  rows : x.f1.length < 1099511627776
  each : ∀ t ∈ x.f1, t.length < 17592186044416
  num : ∀ t ∈ x.f1, ∀ n ∈ t, in64 n
def semiS (a b : S36) : S36 := ⟨a.f0, semiL a.f0 a.f1 b.f0 b.f1⟩

theorem relOf_reads {W : World} {base : Nat} {r : RelEl} (h : OwnRel W base r) : ∃ A0 c0 A1 c1, r.1 = .slice A0 (relOf r).f0.length c0 ∧ r.2.1 = .slice A1 (relOf r).f1.length c1 ∧ (relOf r).f0.length ≤ c0 ∧ (Kd.int .i64).C W A0 (relOf r).f0.length (relOf r).f0 ∧ (relOf r).f1.length ≤ c1 ∧ (Kd.slice 3 (Kd.int .i64)).C W A1 (relOf r).f1.length (relOf r).f1 := by
  obtain ⟨A1, c1, e1, l1, g1⟩ := h.1.reads
  obtain ⟨A2, c2, e2, l2, g2⟩ := h.2.reads
  have hl : r.2.2.2.length = (relOf r).f1.length := by simp [relOf]
  rw [hl] at e2 l2 g2
  exact ⟨A1, c1, A2, c2, e1, e2, l1, g1, l2, g2⟩

set_option maxHeartbeats 2000000 in
set_option maxRecDepth 100000 in
theorem pass_Up_1.calls (i p B g base : Nat) (rs : List RelEl) (ri rp : RelEl) (w : World) (hb : w.heap[B]? = some (.cells #[.slice (some ⟨g, 0, none⟩) rs.length rs.length] 28 (0, 0))) (hrs : RelsAt w base g rs) (hl : rs.length < 1073741824)
    (hi : rs[i]? = some ri) (hp : rs[p]? = some rp) (hgi : RelGood (relOf ri)) (hgp : RelGood (relOf rp)) (hT : TabOk w) (hbase : base ≤ w.heap.size) :
    Calls Tryd.prog 18 #[.int .i64 i, .int .i64 p, .pointer (some ⟨B, 0, none⟩)] w fun e w' => e = .returned (.tuple #[]) ∧ (∃ r', relOf r' = semiS (relOf rp) (relOf ri) ∧ RelsAt w' base g (rs.set p r')) ∧ w.grownBy w' (some g) := by
  have hil : i < rs.length := (List.getElem?_eq_some_iff.1 hi).1
  have hpl : p < rs.length := (List.getElem?_eq_some_iff.1 hp).1
  obtain ⟨A0, c0, A1, c1, e1, e2, l1, g1, l2, g2⟩ := relOf_reads (hrs.own _ (List.mem_of_getElem? hp))
  obtain ⟨A2, c2, A3, c3, e3, e4, l3, g3, l4, g4⟩ := relOf_reads (hrs.own _ (List.mem_of_getElem? hi))
  obtain ⟨xi1, xi2, _, _⟩ := hrs.cell hi
  obtain ⟨xp1, xp2, xp3, xp4⟩ := hrs.cell hp
  rw [e1] at xp1
  rw [e2] at xp2
  rw [e3] at xi1
  rw [e4] at xi2
  have hbc := (blk_cell hb 0).trans rfl
  have hi0 : (0 : Int) ≤ (i : Int) := by omega
  have hi1 : (i : Int) < (rs.length : Int) := by omega
  have hp0 : (0 : Int) ≤ (p : Int) := by omega
  have hp1 : (p : Int) < (rs.length : Int) := by omega
  have HRS := Aside0.mk hrs
  have HHB := Aside0.mk hb
  have HGI := Aside0.mk hgi
  have HGP := Aside0.mk hgp
  have HT := Aside0.mk hT
  have HI := Aside0.mk hi
  have HP := Aside0.mk hp
  have HPL := Aside0.mk hpl
  have H1 := Aside0.mk (And.intro l1 g1)
  have H2 := Aside0.mk (And.intro l2 g2)
  have H3 := Aside0.mk (And.intro l3 g3)
  have H4 := Aside0.mk (And.intro l4 g4)
  have HBASE := Aside0.mk hbase
  clear hb hrs hgi hgp hT hi hp e1 e2 e3 e4 l1 g1 l2 g2 l3 g3 l4 g4 hil hpl
  generalize relOf ri = xi at *
  generalize relOf rp = xp at *
  go_enter Tryd.func18, Tryd.ntmps18
  go_wp2_with fail
  go_region_law
    (first
      | (go_simp; go_at_call 19
         refine (join_Semijoin.calls A0 c0 xp.f0 A1 c1 xp.f1 A2 c2 xi.f0 A3 c3 xi.f1 _ (Kd.C_below H1.out.2 (below_drew (Below.refl _ _))) H1.out.1 (Kd.C_below H2.out.2 (below_drew (Below.refl _ _))) (Kd.C_below H3.out.2 (below_drew (Below.refl _ _))) H3.out.1 (Kd.C_below H4.out.2 (below_drew (Below.refl _ _))) HGP.out.sch HGP.out.rows HGI.out.sch HGI.out.rows HGP.out.each HGP.out.num HGI.out.num (HT.out.on (below_drew (Below.refl _ _)))).mono ?_
         rintro e w5 ⟨v1, v2, es, rfl, h1, h2, h3, hb5⟩
         have HV1 := Aside0.mk h1
         have HV2 := Aside0.mk h2
         have HES := Aside0.mk h3
         have HB5 := Aside0.mk (below_step (below_drew (Below.refl w.heap.size w)) hb5)
         obtain ⟨As, cs, es1, hsl, hsC⟩ := HV1.out.reads
         have es1 : v1 = .slice As xp.f0.length cs := es1
         subst es1
         obtain ⟨Ar, cr, es2⟩ := own_slice HV2.out.1
         subst es2
         have hbc5 := (blk_cell (blk_below HHB.out HB5.out) 0).trans rfl
         obtain ⟨yp1, yp2, yp3, yp4⟩ := (HRS.out.below HB5.out).cell HP.out
         clear hsl hsC h1 h2 h3 hb5
         go_wp2_with fail))
  all_goals go_end0
  all_goals
    refine ⟨rfl, ⟨(.slice As xp.f0.length cs, .slice Ar es.length cr, xp.f0, es), ?_, ?_⟩, ?_⟩
  all_goals first
    | (show relOf _ = semiS _ _; unfold relOf semiS; rw [HES.out]; done)
    | exact RelsAt.put (r := (.slice As xp.f0.length cs, .slice Ar es.length cr, xp.f0, es)) (HRS.out.below HB5.out) p HPL.out ⟨HV1.out.lower HBASE.out, HV2.out.lower HBASE.out⟩
    | exact ((grown_of_below HB5.out _).trans (grown_setCell _ _ _ _)).trans (grown_setCell _ _ _ _)
    | go_goals

end Go.Proofs.YtgejnljpdfjgpaaDoor.Q
/- pass.Down's literal: a child has what its parent has. -/
namespace Go.Proofs.YtgejnljpdfjgpaaDoor.Q
open Go.RowKit Go.Proofs Go.Proofs.YtgejnljpdfjgpaaDoorW.PrintWords Go.Proofs.YtgejnljpdfjgpaaDoorW.PrintLast Go.Proofs.YtgejnljpdfjgpaaDoorW.PrintMore
set_option linter.unusedVariables false
set_option linter.unusedSimpArgs false

set_option maxHeartbeats 2000000 in
set_option maxRecDepth 100000 in
theorem pass_Down_1.calls (i p B g base : Nat) (rs : List RelEl) (ri rp : RelEl) (w : World) (hb : w.heap[B]? = some (.cells #[.slice (some ⟨g, 0, none⟩) rs.length rs.length] 28 (0, 0))) (hrs : RelsAt w base g rs) (hl : rs.length < 1073741824)
    (hi : rs[i]? = some ri) (hp : rs[p]? = some rp) (hgi : RelGood (relOf ri)) (hgp : RelGood (relOf rp)) (hT : TabOk w) (hbase : base ≤ w.heap.size) :
    Calls Tryd.prog 20 #[.int .i64 p, .int .i64 i, .pointer (some ⟨B, 0, none⟩)] w fun e w' => e = .returned (.tuple #[]) ∧ (∃ r', relOf r' = semiS (relOf rp) (relOf ri) ∧ RelsAt w' base g (rs.set p r')) ∧ w.grownBy w' (some g) := by
  have hil : i < rs.length := (List.getElem?_eq_some_iff.1 hi).1
  have hpl : p < rs.length := (List.getElem?_eq_some_iff.1 hp).1
  obtain ⟨A0, c0, A1, c1, e1, e2, l1, g1, l2, g2⟩ := relOf_reads (hrs.own _ (List.mem_of_getElem? hp))
  obtain ⟨A2, c2, A3, c3, e3, e4, l3, g3, l4, g4⟩ := relOf_reads (hrs.own _ (List.mem_of_getElem? hi))
  obtain ⟨xi1, xi2, _, _⟩ := hrs.cell hi
  obtain ⟨xp1, xp2, xp3, xp4⟩ := hrs.cell hp
  rw [e1] at xp1
  rw [e2] at xp2
  rw [e3] at xi1
  rw [e4] at xi2
  have hbc := (blk_cell hb 0).trans rfl
  have hi0 : (0 : Int) ≤ (i : Int) := by omega
  have hi1 : (i : Int) < (rs.length : Int) := by omega
  have hp0 : (0 : Int) ≤ (p : Int) := by omega
  have hp1 : (p : Int) < (rs.length : Int) := by omega
  have HRS := Aside0.mk hrs
  have HHB := Aside0.mk hb
  have HGI := Aside0.mk hgi
  have HGP := Aside0.mk hgp
  have HT := Aside0.mk hT
  have HI := Aside0.mk hi
  have HP := Aside0.mk hp
  have HPL := Aside0.mk hpl
  have H1 := Aside0.mk (And.intro l1 g1)
  have H2 := Aside0.mk (And.intro l2 g2)
  have H3 := Aside0.mk (And.intro l3 g3)
  have H4 := Aside0.mk (And.intro l4 g4)
  have HBASE := Aside0.mk hbase
  clear hb hrs hgi hgp hT hi hp e1 e2 e3 e4 l1 g1 l2 g2 l3 g3 l4 g4 hil hpl
  generalize relOf ri = xi at *
  generalize relOf rp = xp at *
  go_enter Tryd.func20, Tryd.ntmps20
  go_wp2_with fail
  go_region_law
    (first
      | (go_simp; go_at_call 19
         refine (join_Semijoin.calls A0 c0 xp.f0 A1 c1 xp.f1 A2 c2 xi.f0 A3 c3 xi.f1 _ (Kd.C_below H1.out.2 (below_drew (Below.refl _ _))) H1.out.1 (Kd.C_below H2.out.2 (below_drew (Below.refl _ _))) (Kd.C_below H3.out.2 (below_drew (Below.refl _ _))) H3.out.1 (Kd.C_below H4.out.2 (below_drew (Below.refl _ _))) HGP.out.sch HGP.out.rows HGI.out.sch HGI.out.rows HGP.out.each HGP.out.num HGI.out.num (HT.out.on (below_drew (Below.refl _ _)))).mono ?_
         rintro e w5 ⟨v1, v2, es, rfl, h1, h2, h3, hb5⟩
         have HV1 := Aside0.mk h1
         have HV2 := Aside0.mk h2
         have HES := Aside0.mk h3
         have HB5 := Aside0.mk (below_step (below_drew (Below.refl w.heap.size w)) hb5)
         obtain ⟨As, cs, es1, hsl, hsC⟩ := HV1.out.reads
         have es1 : v1 = .slice As xp.f0.length cs := es1
         subst es1
         obtain ⟨Ar, cr, es2⟩ := own_slice HV2.out.1
         subst es2
         have hbc5 := (blk_cell (blk_below HHB.out HB5.out) 0).trans rfl
         obtain ⟨yp1, yp2, yp3, yp4⟩ := (HRS.out.below HB5.out).cell HP.out
         clear hsl hsC h1 h2 h3 hb5
         go_wp2_with fail))
  all_goals go_end0
  all_goals
    refine ⟨rfl, ⟨(.slice As xp.f0.length cs, .slice Ar es.length cr, xp.f0, es), ?_, ?_⟩, ?_⟩
  all_goals first
    | (show relOf _ = semiS _ _; unfold relOf semiS; rw [HES.out]; done)
    | exact RelsAt.put (r := (.slice As xp.f0.length cs, .slice Ar es.length cr, xp.f0, es)) (HRS.out.below HB5.out) p HPL.out ⟨HV1.out.lower HBASE.out, HV2.out.lower HBASE.out⟩
    | exact ((grown_of_below HB5.out _).trans (grown_setCell _ _ _ _)).trans (grown_setCell _ _ _ _)
    | go_goals

end Go.Proofs.YtgejnljpdfjgpaaDoor.Q
/- pass.copied: relations with rows of their own. Its conditions: the relations are read at the call; sizes. -/
namespace Go.Proofs.YtgejnljpdfjgpaaDoor.Q
open Go.RowKit Go.Proofs Go.Proofs.YtgejnljpdfjgpaaDoorW.PrintWords Go.Proofs.YtgejnljpdfjgpaaDoorW.PrintLast Go.Proofs.YtgejnljpdfjgpaaDoorW.PrintMore
set_option linter.unusedVariables false
set_option linter.unusedSimpArgs false

structure RelFits (x : S36) : Prop where
  sch : x.f0.length < 17179869184
  rows : x.f1.length < 1099511627776
  each : ∀ t ∈ x.f1, t.length < 17592186044416

set_option maxHeartbeats 1000000 in
set_option maxRecDepth 100000 in
theorem pass_copied.calls (A0 : Option Addr) (c0 : Nat) (xs : List S36) (w : World) (hr0 : Kd.C k36 w A0 xs.length xs) (hl0 : xs.length < 1073741824) (hf : ∀ x ∈ xs, RelFits x) :
    Calls Tryd.prog 17 #[.slice A0 xs.length c0] w fun e w' => ∃ (g : Nat) (rs : List RelEl), e = .returned (.slice (some ⟨g, 0, none⟩) xs.length xs.length) ∧ RelsAt w' w.heap.size g rs ∧ rs.map relOf = xs ∧ Below w.heap.size w w' := by
  have hmk : ∀ W : World, (Instr.makeSlice 28 (.int .i64 (xs.length : Int)) (.int .i64 (xs.length : Int))).run Tryd.prog W = .ok (.slice (some ⟨W.heap.size, 0, none⟩) xs.length xs.length) (W.alloc (.cells (madeCells #[.slice none 0 0, .slice none 0 0] (xs.length * 2)) 36)) := fun W => by
    obtain ⟨i0, hi, hz0, hz1, hz2⟩ := info_parts info_rel
    have := run_make (P := Tryd.prog) W 28 36 i0 (.agg #[.slice none 0 0, .slice none 0 0]) Tryd.underlying28 hi hz0 .i64 .i64 xs.length xs.length (by omega) (by omega) (by rw [hz2]; omega) (by omega)
    rw [hz1, Int.toNat_natCast] at this
    exact this
  have HR0 := Aside0.mk hr0
  have HF := Aside0.mk hf
  clear hr0 hf
  go_enter Tryd.func17, Tryd.ntmps17
  go_wp2
  go_loopw [13] (fun i wr => ∃ (k : Nat) (rs : List RelEl), k ≤ xs.length ∧ i = .int .i64 k ∧ Aside0 (RelsAt wr w.heap.size w.heap.size rs) ∧ Aside0 (rs.map relOf = xs.take k ++ List.replicate (xs.length - k) z36) ∧ Aside0 (Below w.heap.size w wr)) (fun i _ => xs.length - (intOf i).toNat)
  case atStart => exact ⟨0, _, Nat.zero_le _, rfl, aside0 (RelsAt.made w _ (by simp only [maxLen]; omega)), aside0 (by simp [relOf, zeroRel, z36]), aside0 ((Below.refl _ _).alloc (Nat.le_refl _) _)⟩
  case round =>
    obtain ⟨k, rs, hk, rfl, HRS, HMP, HB⟩ := hrel
    clear hmk
    by_cases hlt : k < xs.length
    · have hd : decide ((k : Int) < (xs.length : Int)) = true := decide_eq_true (by omega)
      have hd2 : decide (k < xs.length) = true := decide_eq_true hlt
      have hl1 := hl0
      obtain ⟨ad, A1, c1, A2, c2, e1, hx0, hx1, hc1, hC1, hc2, hC2⟩ := at_T36 HR0.out (k : Int) (by omega) (by omega)
      subst e1
      rw [Int.toNat_natCast] at hx0 hx1
      replace hx0 := (HB.out.cell (World.block_lt_of_cell? w _ hx0)).trans hx0
      replace hx1 := (HB.out.cell (World.block_lt_of_cell? w _ hx1)).trans hx1
      have hxk : xs[k]? = some (rd_T36 xs (k : Int)) := by simp [rd_T36, List.getElem?_eq_getElem hlt]
      have HFX := Aside0.mk (HF.out _ (List.mem_of_getElem? hxk))
      have HRL := Aside0.mk (show rs.length = xs.length by have := congrArg List.length HMP.out; simp at this; omega)
      have HXK := Aside0.mk hxk
      generalize rd_T36 xs (k : Int) = x at hx0 hx1 hc1 hC1 hc2 hC2 HFX HXK
      have HC1 := Aside0.mk hC1
      have HC2 := Aside0.mk hC2
      have HCL1 := Aside0.mk hc1
      have HCL2 := Aside0.mk hc2
      clear hc1 hC1 hc2 hC2 hxk
      have hmk2 : ∀ W : World, (Instr.makeSlice 24 (.int .i64 (x.f1.length : Int)) (.int .i64 (x.f1.length : Int))).run Tryd.prog W = .ok (.slice (some ⟨W.heap.size, 0, none⟩) x.f1.length x.f1.length) (W.alloc (.cells (madeCells #[.slice none 0 0] x.f1.length) 25)) := fun W => by
        obtain ⟨i0, hi, hz0, hz1, hz2⟩ := info_parts info_rows
        have hxl := HFX.out.rows
        have := run_make (P := Tryd.prog) W 24 25 i0 (.slice none 0 0) Tryd.underlying24 hi hz0 .i64 .i64 x.f1.length x.f1.length (by omega) (by omega) (by rw [hz2]; omega) (by omega)
        rw [hz1, Nat.mul_one, Int.toNat_natCast] at this
        exact this
      go_upto_region 5 with fail
      have hbx : (wr.alloc (.cells #[.slice A1 x.f0.length c1, .slice A2 x.f1.length c2] 36)).heap[wr.heap.size]? = _ := heap_alloc_new wr _
      have hb3 : Below wr.heap.size wr (wr.alloc (.cells #[.slice A1 x.f0.length c1, .slice A2 x.f1.length c2] 36)) := (Below.refl _ _).alloc (Nat.le_refl _) _
      generalize wr.alloc (.cells #[.slice A1 x.f0.length c1, .slice A2 x.f1.length c2] 36) = W3 at hbx hb3 ⊢
      have hgx : some wr.heap.size ≠ some w.heap.size := fun e => by have := HRS.out.lt; injection e; omega
      have HRS3 := Aside0.mk (HRS.out.below hb3)
      have HB3 := Aside0.mk hb3
      have HBW3 := Aside0.mk (below_step HB.out hb3)
      have HBX := Aside0.mk hbx
      have XS : Aside0 (∀ W, W3.grownBy W (some w.heap.size) → W.cell? ⟨wr.heap.size, 0, none⟩ = some (.slice A1 x.f0.length c1) ∧ W.cell? ⟨wr.heap.size, 1, none⟩ = some (.slice A2 x.f1.length c2) ∧ Aside0 (W3.grownBy W (some w.heap.size)) ∧ Aside0 (Below w.heap.size w W)) :=
        ⟨fun W h => ⟨(blk_cell (blk_grown HBX.out h hgx) 0).trans rfl, (blk_cell (blk_grown HBX.out h hgx) 1).trans rfl, ⟨h⟩, ⟨pw_below_grown HBW3.out (some w.heap.size) HBW3.out.size h (fun j hj => by cases hj; exact Nat.le_refl _)⟩⟩⟩
      have hrk : rs[k]? = some (rs[k]'(by have := HRL.out; omega)) := List.getElem?_eq_getElem _
      have HGX := Aside0.mk hgx
      clear hgx hbx hb3
      generalize rs[k]'(by have := HRL.out; omega) = rk at hrk
      have HRK := Aside0.mk hrk
      clear hrk
      go_cut [5] (fun v5 wx => ∃ (gr : Nat) (vs : Value), v5 = .pointer (some ⟨wr.heap.size, 0, none⟩) ∧ Aside0 (RelsAt wx w.heap.size w.heap.size (rs.set k (vs, .slice (some ⟨gr, 0, none⟩) x.f1.length x.f1.length, x.f0, List.replicate x.f1.length (.slice none 0 0, [])))) ∧ Aside0 (W3.heap.size ≤ gr) ∧ Aside0 (W3.grownBy wx (some w.heap.size)))
      case first =>
        go_region_held3 (fun w' => w'.cell? ⟨wr.heap.size, 0, none⟩ = some (.slice A1 x.f0.length c1) ∧ w'.cell? ⟨wr.heap.size, 1, none⟩ = some (.slice A2 x.f1.length c2) ∧ Aside0 (W3.grownBy w' (some w.heap.size)) ∧ Aside0 (Below w.heap.size w w'))
          ((refine XS.out _ ?_; go_split_ands; first | exact grown_of_below (below_drew (Below.refl _ _)) _ | exact hk5.out | exact hk5.out.trans (World.grownBy_alloc _ _ _) | exact ‹Aside0 (W3.grownBy _ (some w.heap.size))›.out.trans (World.grownBy_alloc _ _ _) | exact (hk5.out.trans (grown_setCell _ _ _ _)).trans (grown_setCell _ _ _ _) | exact ((hk5.out.trans (World.grownBy_alloc _ _ _)).trans (grown_setCell _ _ _ _)).trans (grown_setCell _ _ _ _)))
          (first
            | (go_at_call 29; go_split_ands
               refine (slices_Clone_int_int.calls A1 c1 x.f0 x.f0 _ (Kd.C_below HC1.out ‹Aside0 (Below w.heap.size w _)›.out) HCL1.out (by unfold slices_Clone_int_int.f; rw [if_pos (by have := HFX.out.sch; omega)])).mono ?_
               rintro e w5 ⟨vs, rfl, hvs, hb5⟩
               have hk5 := Aside0.mk (‹Aside0 (W3.grownBy _ (some w.heap.size))›.out.trans (grown_of_below hb5 _))
               (first | have hwr5 := Aside0.mk (below_step (below_drew HB3.out) hb5) | have hwr5 := Aside0.mk (below_step ((below_drew HB3.out).alloc (below_drew HB3.out).size _) hb5) | have hwr5 := Aside0.mk (below_step (below_drew (HB3.out.alloc HB3.out.size _)) hb5))
               have HV5 := Aside0.mk (OwnEl.of_R hvs)
               obtain ⟨As, cs, evs, hls, hsC⟩ := HV5.out.reads
               have evs : vs = .slice As x.f0.length cs := evs
               subst evs
               clear hls hsC
               obtain ⟨hr1, hr2, hr3, hr4⟩ := RelsAt.cell (HRS.out.below hwr5.out) HRK.out
               have hb6 : Below w5.heap.size w5 (w5.alloc (.cells (madeCells #[.slice none 0 0] x.f1.length) 25)) := (Below.refl _ _).alloc (Nat.le_refl _) _
               obtain ⟨ha1, ha2, ha3, ha4⟩ := RelsAt.cell ((HRS.out.below hwr5.out).below hb6) HRK.out
               clear hb6))
        all_goals go_split_ands
        all_goals (go_wp2_with fail; go_meet)
        all_goals have hml : x.f1.length ≤ maxLen := by have := HFX.out.rows; simp only [maxLen]; omega
        all_goals have hkl : k < rs.length := by have := HRL.out; omega
        all_goals have hz1 : w.heap.size ≤ wr.heap.size := HB.out.size
        all_goals have hz2 : wr.heap.size ≤ W3.heap.size := HB3.out.size
        all_goals have hz3 : W3.heap.size ≤ w5.heap.size := by have := hb5.size; simp at this; omega
        all_goals first
          | exact ⟨w5.heap.size, .slice As x.f0.length cs, rfl, aside0 (RelsAt.put (r := (.slice As x.f0.length cs, .slice (some ⟨w5.heap.size, 0, none⟩) x.f1.length x.f1.length, x.f0, List.replicate x.f1.length (.slice none 0 0, []))) ((HRS.out.below hwr5.out).below ((Below.refl _ _).alloc (Nat.le_refl _) _)) k hkl
              ⟨(HV5.out.lower (by simp; omega)).below ((Below.refl _ _).alloc (Nat.le_refl _) _), by simpa using (RowsAt.made w5 x.f1.length hml).rows.lower (b := w5.heap.size) (base := w.heap.size) (by omega)⟩), aside0 hz3, by assumption⟩
          | exact ⟨W3.heap.size, .slice As x.f0.length cs, rfl, aside0 (RelsAt.put (r := (.slice As x.f0.length cs, .slice (some ⟨W3.heap.size, 0, none⟩) x.f1.length x.f1.length, x.f0, List.replicate x.f1.length (.slice none 0 0, []))) (HRS.out.below hwr5.out) k hkl
              ⟨HV5.out.lower (by simp; omega), by simpa using ((((RowsAt.made W3 x.f1.length hml).rows.lower (b := W3.heap.size) (base := w.heap.size) (by omega)).below (below_drew (Below.refl _ _))).below hb5)⟩), aside0 (Nat.le_refl _), by assumption⟩
      case rest =>
        obtain ⟨gr, vs, rfl, HRS5, HGR3, HG5⟩ := hcut
        have hxb : wc.cell? ⟨wr.heap.size, 1, none⟩ = some (.slice A2 x.f1.length c2) := (blk_cell (blk_grown HBX.out HG5.out HGX.out) 1).trans rfl
        have HNE := Aside0.mk (show ∀ (r' : RelEl) (j : Nat) (r : RelEl), (rs.set k r')[j]? = some r → j ≠ k → r.2.1.ownBlock ≠ some gr from fun r' j r hr hj e => by
          rw [List.getElem?_set, if_neg (fun e => hj e.symm)] at hr
          have h1 := own_lt (HRS.out.own r (List.mem_of_getElem? hr)).2.1 gr e
          have h2 := HB3.out.size
          have h3 := HGR3.out
          omega)
        have HBW5 := Aside0.mk (pw_below_grown HBW3.out (some w.heap.size) HBW3.out.size HG5.out (fun j hj => by cases hj; exact Nat.le_refl _))
        have HKL := Aside0.mk (show k < rs.length by have := HRL.out; omega)
        clear hx0 hx1 hmk2
        go_wp2
        go_loopw [32] (fun i wi => ∃ (j : Nat) (es : List El), j ≤ x.f1.length ∧ i = .int .i64 j ∧ Aside0 (RelsAt wi w.heap.size w.heap.size (rs.set k (vs, .slice (some ⟨gr, 0, none⟩) x.f1.length x.f1.length, x.f0, es))) ∧ Aside0 (es.map (·.2) = x.f1.take j ++ List.replicate (x.f1.length - j) []) ∧ Aside0 (Below w.heap.size w wi)) (fun i _ => x.f1.length - (intOf i).toNat)
        case atStart => exact ⟨0, _, Nat.zero_le _, rfl, HRS5, aside0 (by simp), HBW5⟩
        case round =>
          clear hxb
          obtain ⟨j, es, hj, rfl, HRI, HES, HBI⟩ := hrel
          have hm1 := HFX.out.rows
          by_cases hjt : j < x.f1.length
          · have hd3 : decide ((j : Int) < (x.f1.length : Int)) = true := decide_eq_true (by omega)
            have hd4 : decide (j < x.f1.length) = true := decide_eq_true hjt
            obtain ⟨at2, A3, c3, e3, hy0, hyl, hyC⟩ := at_sl HC2.out j hjt
            subst e3
            replace hy0 := (HBI.out.cell (World.block_lt_of_cell? w _ hy0)).trans hy0
            have hyk : x.f1[j]? = some (x.f1.getD j []) := by rw [List.getD_eq_getElem?_getD, List.getElem?_eq_getElem hjt]; rfl
            have HYF := Aside0.mk (HFX.out.each _ (List.mem_of_getElem? hyk))
            have HTK := Aside0.mk (show x.f1.take (j + 1) = x.f1.take j ++ [x.f1.getD j []] from by rw [List.take_succ_eq_append_getElem hjt, List.getD_eq_getElem?_getD, List.getElem?_eq_getElem hjt]; rfl)
            generalize x.f1.getD j [] = y at hy0 hyl hyC hyk HYF HTK
            have HYC := Aside0.mk (Kd.C_below hyC HBI.out)
            have HYL := Aside0.mk hyl
            clear hyC hyl hyk
            have HEL := Aside0.mk (show es.length = x.f1.length by have := congrArg List.length HES.out; simp at this; omega)
            have HJL := Aside0.mk (show j < es.length by rw [HEL.out]; exact hjt)
            have hgk : (rs.set k (vs, .slice (some ⟨gr, 0, none⟩) x.f1.length x.f1.length, x.f0, es))[k]? = some (vs, .slice (some ⟨gr, 0, none⟩) x.f1.length x.f1.length, x.f0, es) := by rw [List.getElem?_set, if_pos rfl, if_pos HKL.out]
            have HGK := Aside0.mk hgk
            have HRA := Aside0.mk (RowsOwn.at (HRI.out.own _ (List.mem_of_getElem? hgk)).2)
            have hcc := (HRI.out.cell hgk).2.1
            clear hgk
            have hj0 : (0 : Int) ≤ (j : Int) := by omega
            have hj1 : (j : Int) < (x.f1.length : Int) := by omega
            go_upto_region 9 with fail
            go_region_held3 (fun w' => w'.cell? ⟨w.heap.size, k * 2 + 1, none⟩ = some (.slice (some ⟨gr, 0, none⟩) x.f1.length x.f1.length) ∧ Aside0 (Below w.heap.size w w'))
              ((go_split_ands; first | exact ⟨hcc, aside0 (below_drew HBI.out)⟩ | exact ⟨hcd, aside0 (HBI5.out)⟩ | exact ⟨hce, aside0 (HBI5.out.setCell HRA.out.ge _)⟩))
              (first
                | (go_at_call 29; go_split_ands
                   refine (slices_Clone_int_int.calls A3 c3 y y _ (Kd.C_below HYC.out (below_drew (Below.refl _ _))) HYL.out (by unfold slices_Clone_int_int.f; rw [if_pos HYF.out])).mono ?_
                   rintro e w5 ⟨v5, rfl, hv5, hb5⟩
                   have HV5 := Aside0.mk (OwnEl.of_R hv5)
                   obtain ⟨A5, c5, e5, hl5, hC5⟩ := HV5.out.reads
                   have e5 : v5 = .slice A5 y.length c5 := e5
                   subst e5
                   clear hl5 hC5
                   have HB5 := Aside0.mk (below_step (below_drew (Below.refl wr.heap.size wr)) hb5)
                   have HBI5 := Aside0.mk (below_step HBI.out HB5.out)
                   have hcd := ((HRI.out.below HB5.out).cell HGK.out).2.1
                   obtain ⟨hr1, hr2⟩ := (HRA.out.below HB5.out).cell j HJL.out
                   have hce : (w5.setCell ⟨gr, j, none⟩ (.slice A5 y.length c5)).cell? ⟨w.heap.size, k * 2 + 1, none⟩ = some (.slice (some ⟨gr, 0, none⟩) x.f1.length x.f1.length) := (grown_setCell w5 gr j _).cell hcd (fun e => by
                     obtain ⟨cb, h1, _⟩ := (HRI.out.below HB5.out).blk
                     obtain ⟨cr, h2, _⟩ := (HRA.out.below HB5.out).blk
                     injection e with e
                     have e : w.heap.size = gr := e
                     rw [e, h2] at h1
                     injection h1 with h1
                     injection h1 with _ h1
                     exact absurd h1 (by decide))
                   clear hv5 hb5))
            all_goals go_split_ands
            all_goals (go_wp2; go_roundw)
            case rel =>
              have hrr := HRA.out.below HB5.out
              obtain ⟨cr, hcr, _⟩ := hrr.blk
              have hset := hrr.set j HJL.out (v := .slice A5 y.length c5) (x := y) (HV5.out.lower (by have := HBI.out.size; exact this)) (fun q hq p hp e => by
                obtain ⟨inn, ho⟩ := Kd.R_own HV5.out
                have h1 := own_base ho q hq
                have h2 := (HRA.out.own p hp).lt e
                have h4 : wr.drew.heap.size = wr.heap.size := rfl
                omega)
              have hrow := hset.rows
              rw [List.length_set, HEL.out] at hrow
              have ht := RelsAt.turn (HRI.out.below HB5.out) HGK.out hcr (fun q _ hq => Below.heap_setCell w5 ⟨gr, j, none⟩ _ q hq) (fun jj r hr hj => HNE.out _ jj r hr hj) hrow
              rw [List.set_set] at ht
              refine ⟨j + 1, es.set j (.slice A5 y.length c5, y), by omega, by go_num, aside0 ht, aside0 ?_, aside0 (HBI5.out.setCell HRA.out.ge _)⟩
              have h2 : x.f1.length - j = (x.f1.length - (j + 1)) + 1 := by omega
              rw [List.map_set, HES.out, HTK.out, List.set_append_right _ _ (by rw [List.length_take]; exact Nat.min_le_left _ _), List.append_assoc, h2, List.replicate_succ]
              simp only [List.length_take, Nat.min_eq_left hj, Nat.sub_self, List.set_cons_zero]
              rfl
            case measure => simp [intOf]; omega
          · have hje : j = x.f1.length := by omega
            subst hje
            have hd4 : decide (x.f1.length < x.f1.length) = false := decide_eq_false (by omega)
            go_wp2
            go_roundw
            case rel =>
              refine ⟨k + 1, _, by omega, by go_num, HRI, aside0 ?_, HBI⟩
              rw [List.take_length, Nat.sub_self, List.replicate_zero, List.append_nil] at HES
              have hx : x = relOf (vs, .slice (some ⟨gr, 0, none⟩) x.f1.length x.f1.length, x.f0, es) := by
                unfold relOf
                rw [HES.out]
              rw [List.map_set, HMP.out, ← hx]
              rw [List.set_append_right _ _ (by rw [List.length_take]; exact Nat.min_le_left _ _)]
              simp only [List.length_take, Nat.min_eq_left hk, Nat.sub_self]
              rw [List.take_succ_eq_append_getElem hlt, List.append_assoc]
              have h1 : xs[k] = x := by have := HXK.out; rw [List.getElem?_eq_getElem hlt] at this; exact Option.some.inj this
              have h2 : xs.length - k = (xs.length - (k + 1)) + 1 := by omega
              rw [h1, h2, List.replicate_succ]
              rfl
            case measure => simp [intOf]; omega
    · have hke : k = xs.length := by omega
      subst hke
      have hd2 : decide (xs.length < xs.length) = false := decide_eq_false (by omega)
      go_wp2
      go_ret
      rw [List.take_length, Nat.sub_self, List.replicate_zero, List.append_nil] at HMP
      exact ⟨_, rs, rfl, HRS.out, HMP.out, HB.out⟩

end Go.Proofs.YtgejnljpdfjgpaaDoor.Q
namespace Go.Proofs.YtgejnljpdfjgpaaDoor.Q
open Go.RowKit Go.Proofs.YtgejnljpdfjgpaaDoorW.PrintWords Go.Proofs.YtgejnljpdfjgpaaDoorW.PrintLast Go.Proofs.YtgejnljpdfjgpaaDoorW.PrintMore
attribute [local go_sem] max2_int min2_int max_two min_two max_three min_three max_four min_four   -- for this text's walks alone
set_option linter.unusedVariables false
set_option linter.unusedSimpArgs false

/-! ### slices_Reverse_int_int: function 26 -/
def slices_Reverse_int_int.l0 : Nat → List Int → Int → Int → Option (List Int)
 | 0, _, _, _ => none
 | k + 1, x0, x2, x3 => if x2 < x3 then (if 0 ≤ x3 then (if x3 < (x0.length : Int) then (if 0 ≤ x2 then (if x2 < (x0.length : Int) then (slices_Reverse_int_int.l0 k ((x0.set (x2 : Int).toNat (rd x0 x3)).set (x3 : Int).toNat (rd x0 x2)) (wrap64 (x2 + 1)) (wrap64 (x3 - 1))) else (none)) else (none)) else (none)) else (none)) else (some x0)
def slices_Reverse_int_int.f (k : Nat) (l0 : List Int) : Option (List Int) := slices_Reverse_int_int.l0 k l0 0 (wrap64 ((l0.length : Int) - 1))
theorem slices_Reverse_int_int.mono_l : ∀ k, (∀ y0 y1 y2, LeO (slices_Reverse_int_int.l0 k y0 y1 y2) (slices_Reverse_int_int.l0 (k + 1) y0 y1 y2))
 | 0 => fun _ _ _ r h => by simp [slices_Reverse_int_int.l0] at h
 | k + 1 => by
  have ih0 := slices_Reverse_int_int.mono_l k
  ·intro y0 y1 y2
   unfold slices_Reverse_int_int.l0
   repeat' first
   | (with_reducible exact ih0 _ _ _)
   | (with_reducible exact LeO.refl _)
   | (with_reducible exact LeO.none _)
   | (with_reducible refine LeO.ite ?_ ?_)
   | (with_reducible refine LeO.bind ?_ (fun _ => ?_))
   | exact ih0 _ _ _
   | exact LeO.none _
   | refine LeO.ite ?_ ?_
   | refine LeO.bind ?_ (fun _ => ?_)
theorem slices_Reverse_int_int.mono : ∀ a0 k, LeO (slices_Reverse_int_int.f k a0) (slices_Reverse_int_int.f (k + 1) a0) := by
 intro a0 k
 have ih0 := slices_Reverse_int_int.mono_l k
 unfold slices_Reverse_int_int.f
 repeat' first
   | (with_reducible exact ih0 _ _ _)
   | (with_reducible exact LeO.refl _)
   | (with_reducible exact LeO.none _)
   | (with_reducible refine LeO.ite ?_ ?_)
   | (with_reducible refine LeO.bind ?_ (fun _ => ?_))
   | exact ih0 _ _ _
   | exact LeO.none _
   | refine LeO.ite ?_ ?_
   | refine LeO.bind ?_ (fun _ => ?_)
def slices_Reverse_int_int.T3 : Bool × List (List Nat × List Nat) := (true, [([], []), ([], []), ([], []), ([], []), ([], []), ([], []), ([4, 5], [4, 5]), ([6], [6]), ([], []), ([], []), ([8, 9], [8, 9]), ([10], [10]), ([0, 1, 0, 1, 4, 5, 6, 7, 11], [0, 1]), ([12, 7, 0, 1, 4, 5, 6, 7, 11], [7, 12]), ([2, 3, 0, 1, 2, 3, 4, 5, 6, 7, 8, 9, 10, 11, 12, 13], [2, 3]), ([14, 11, 13, 0, 1, 2, 3, 4, 5, 6, 7, 8, 9, 10, 11, 12, 13], [11, 14])])
def slices_Reverse_int_int.B3 : List Nat := [0, 0, 0, 0, 0, 0, 48, 112, 0, 0, 768, 1792, 4083, 8179, 16383, 32767]
theorem slices_Reverse_int_int.tab3 : rtab .any (opsOf Tryd.f26 3) = slices_Reverse_int_int.T3 := by kernel_rfl
theorem slices_Reverse_int_int.bits3 : waitsOk slices_Reverse_int_int.T3.2 slices_Reverse_int_int.B3 = true := by kernel_rfl
set_option maxHeartbeats 8000000 in
set_option maxRecDepth 100000 in
theorem slices_Reverse_int_int.calls (k : Nat) (P0_ : Nat → Prop) (u9000_ : Value) (l0 : List Int) (r : List Int) (w0 w : World) (hB : Below w0.heap.size w0 w) (ho0 : Kd.R (Kd.int .i64) 3 w w0.heap.size P0_ u9000_ l0) (h : slices_Reverse_int_int.f k l0 = some r) :
  Calls Tryd.prog 26 #[u9000_] w fun e w' => e = .returned (.tuple #[]) ∧ Kd.R (Kd.int .i64) 3 w' w0.heap.size (fun k_ => (P0_ k_ ∨ w.heap.size ≤ k_)) u9000_ r ∧ Below w0.heap.size w0 w' ∧ Kept w w' (fun k_ => P0_ k_) := by
 have HO0 := Aside0.mk (show Kd.R (Kd.int .i64) 3 w w0.heap.size (fun k_ => (P0_ k_ ∨ w.heap.size ≤ k_)) u9000_ l0 from Kd.R_mono ho0 (fun k_ hk => (.inl hk)))
 have HK := Aside0.mk (Kept.refl w (fun k_ => P0_ k_))
 have HW0 := Aside0.mk hB.size
 have HB := Aside0.mk hB
 clear hB
 have H : (slices_Reverse_int_int.l0 k l0 0 (wrap64 ((l0.length : Int) - 1))) = some r := h
 clear h
 have H' := Aside0.mk H
 clear H
 obtain ⟨Ao2, co2, eo2⟩ := Kd.R_slice HO0.out
 subst eo2
 go_enter Tryd.func26, Tryd.ntmps26
 go_wp2
 go_loopg [2, 3] k (fun kq v2 v3 w' => ∃ (x0_1 : List Int) (x2_1 : Int) (x3_1 : Int), v2 = .int .i64 x2_1 ∧ v3 = .int .i64 x3_1 ∧ Aside0 (slices_Reverse_int_int.l0 kq x0_1 x2_1 x3_1 = some r) ∧ Aside0 (kq ≤ k) ∧ Aside0 (Kd.R (Kd.int .i64) 3 w' w0.heap.size (fun k_ => (P0_ k_ ∨ w.heap.size ≤ k_)) (.slice Ao2 l0.length co2) x0_1) ∧ Aside0 (Kept w w' (fun k_ => P0_ k_)) ∧ Aside0 (Below w0.heap.size w0 w'))
 case atStart => exact ⟨(l0), (0), (wrap64 ((l0.length : Int) - 1)), (by first | rfl | (simp; done) | (simp [*]; done)), (by first | rfl | (simp; done) | (simp [*]; done)), H', ⟨Nat.le_refl _⟩, ⟨by (with_reducible repeat (first | apply Kd.R_alloc | apply Kd.R_drewN | apply Kd.R_drew)); exact HO0.out⟩, ⟨by repeat (first | (with_reducible first | exact HK.out | apply Kept.alloc | apply Kept.drewN | apply Kept.drew) | exact HK.out)⟩, ⟨by repeat (first | (with_reducible first | exact HB.out | apply below_alloc | apply pw_below_drewN | apply below_drew1) | exact HB.out)⟩⟩
 case round =>
  clear H'
  try clear c2
  try clear p2
  obtain ⟨x0_1, x2_1, x3_1, rfl, rfl, HA, HK1, HO_0, HK, HB⟩ := hrel
  have hl0_1 := (Kd.R_reads' HO_0.out).1
  rw [hl0_1] at HO_0
  (try simp only [hl0_1])
  cases gk with
  | zero => exact absurd HA.out (by simp [slices_Reverse_int_int.l0])
  | succ k1 =>
   have H := HA.out
   clear HA
   simp only [slices_Reverse_int_int.l0] at H
   by_cases c3 : x2_1 < x3_1
   ·rw [if_pos c3] at H
    have c3b0 : decide (x2_1 < x3_1) = true := decide_eq_true c3
    clear c3
    by_cases c4 : 0 ≤ x3_1
    ·rw [if_pos c4] at H
     have c4b0 : decide (0 ≤ x3_1) = true := decide_eq_true c4
     clear c4
     by_cases c5 : x3_1 < (x0_1.length : Int)
     ·rw [if_pos c5] at H
      have c5b0 : decide (x3_1 < (x0_1.length : Int)) = true := decide_eq_true c5
      clear c5
      by_cases c6 : 0 ≤ x2_1
      ·rw [if_pos c6] at H
       have c6b0 : decide (0 ≤ x2_1) = true := decide_eq_true c6
       clear c6
       by_cases c7 : x2_1 < (x0_1.length : Int)
       ·rw [if_pos c7] at H
        have c7b0 : decide (x2_1 < (x0_1.length : Int)) = true := decide_eq_true c7
        clear c7
        obtain ⟨y110, hy110⟩ : ∃ y_ : List Int, y_ = (x0_1.set (x2_1 : Int).toNat (rd x0_1 x3_1)) := ⟨_, rfl⟩
        replace H : (slices_Reverse_int_int.l0 k1 (y110.set (x3_1 : Int).toNat (rd x0_1 x2_1)) (wrap64 (x2_1 + 1)) (wrap64 (x3_1 - 1))) = some r := by first | (rw [hy110]; with_reducible exact H) | (have H2_ := (Option.bind_some _ _).symm.trans H; rw [hy110]; with_reducible exact H2_) | (have H2_ := (Option.bind_some _ _).symm.trans H; with_reducible exact H2_) | with_reducible exact H | (rw [hy110]; exact H) | exact H
        have Ny110 := Aside0.mk hy110
        clear hy110
        obtain ⟨y111, hy111⟩ : ∃ y_ : List Int, y_ = (y110.set (x3_1 : Int).toNat (rd x0_1 x2_1)) := ⟨_, rfl⟩
        replace H : (slices_Reverse_int_int.l0 k1 y111 (wrap64 (x2_1 + 1)) (wrap64 (x3_1 - 1))) = some r := by first | (rw [hy111]; with_reducible exact H) | (have H2_ := (Option.bind_some _ _).symm.trans H; rw [hy111]; with_reducible exact H2_) | (have H2_ := (Option.bind_some _ _).symm.trans H; with_reducible exact H2_) | with_reducible exact H | (rw [hy111]; exact H) | exact H
        have Ny111 := Aside0.mk hy111
        clear hy111
        have H' := Aside0.mk H
        clear H
        try go_wp2
        have n0_ := Aside0.mk (Kd.R_drew HO_0.out)
        have n1_ := Aside0.mk (Kept.drew HK.out)
        have n2_ := Aside0.mk (below_drew1 HB.out)
        clear HO_0
        clear HK
        clear HB
        have HO_0 := n0_
        have HK := n1_
        have HB := n2_
        clear n0_ n1_ n2_
        have p108 : 0 ≤ (x3_1 : Int) := of_decide_eq_true (by first | (with_reducible assumption) | assumption)
        have q108 : x3_1 < (x0_1.length : Int) := of_decide_eq_true (by first | (with_reducible assumption) | assumption)
        obtain ⟨ad108, e108, hx108_0⟩ := Kd.at_int (Kd.R_reads' HO_0.out).2.2 x3_1 p108 q108
        cases e108
        replace p108 := eq_true p108
        replace q108 := eq_true q108
        have p109 : 0 ≤ (x2_1 : Int) := of_decide_eq_true (by first | (with_reducible assumption) | assumption)
        have q109 : x2_1 < (x0_1.length : Int) := of_decide_eq_true (by first | (with_reducible assumption) | assumption)
        obtain ⟨ad109, e109, hx109_0⟩ := Kd.at_int (Kd.R_reads' HO_0.out).2.2 x2_1 p109 q109
        obtain rfl : ad108 = ad109 := (by injection e109)
        replace p109 := eq_true p109
        replace q109 := eq_true q109
        have p8 : 0 ≤ (x2_1 : Int) := of_decide_eq_true (by first | (with_reducible assumption) | assumption)
        have q8 : (x2_1 : Int) < ((x0_1.length : Int) : Int) := of_decide_eq_true (by first | (with_reducible assumption) | assumption)
        obtain ⟨go8, co8, eo8, gb8, gl8, cl8, HG8⟩ := Kd.R_form HO_0.out (by omega)
        (first | cases eo8 | (injection eo8 with ea_ en_ ec_; (first | subst ea_ | (injection ea_ with ea_; subst ea_)); subst ec_; clear en_))
        have GB8 := Aside0.mk gb8
        have GG8 := Aside0.mk HG8
        clear gb8 gl8 HG8
        have HMgo8 := Aside0.mk (show (P0_ go8 ∨ w.heap.size ≤ go8) from (HO_0.out.1 _ rfl))
        (first | simp only [add_plain] at hx108_0 | skip)
        (first | simp only [add_plain] at hx109_0 | skip)
        obtain ⟨hx8_0, hf8_0⟩ := Kd.R_celln 0 HO_0.out (x2_1 : Int) p8 q8
        replace p8 := eq_true p8
        replace q8 := eq_true q8
        have HP11 := Kd.R_putn HO_0.out (x2_1 : Int) (rd x0_1 x3_1)
        rw [← Ny110.out] at HP11
        have HQ11 := Aside0.mk HP11
        clear HP11
        have p9 : 0 ≤ (x3_1 : Int) := of_decide_eq_true (by first | (with_reducible assumption) | assumption)
        have q9 : (x3_1 : Int) < ((x0_1.length : Int) : Int) := of_decide_eq_true (by first | (with_reducible assumption) | assumption)
        obtain ⟨hx9_0, hf9_0⟩ := Kd.R_celln 0 HQ11.out (x3_1 : Int) p9 q9
        replace p9 := eq_true p9
        replace q9 := eq_true q9
        have HP12 := Kd.R_putn HQ11.out (x3_1 : Int) (rd x0_1 x2_1)
        rw [← Ny111.out] at HP12
        have HQ12 := Aside0.mk HP12
        clear HP12
        refine start_ (n := 16) (S := fun w' => w'.cell? ⟨go8, (x3_1).toNat, none⟩ = some (.int .i64 (rd x0_1 x3_1)) ∧ w'.cell? ⟨go8, (x2_1).toNat, none⟩ = some (.int .i64 (rd x0_1 x2_1))) (ds := [13, 15]) #[false, false, false, false, false, false, false, false, false, false, false, false, false, false, false, false] (by kernel_rfl) rfl rfl ⟨hx108_0, hx109_0⟩ (fun hHeld => ?_); refine with_tabW slices_Reverse_int_int.tab3 slices_Reverse_int_int.bits3 (fun HT_ HW_ => ?_)
        generalize wr.drew = w10 at HO_0 HK HB GG8 HQ11 HQ12 hf8_0 hf9_0 hx108_0 hx109_0 hx8_0 hx9_0 hHeld ⊢
        refine pure_ (i := 0) (N := some 14) (v := ?_) (a' := ?_) #[true, false, false, false, false, false, false, false, false, false, false, false, false, false, false, false] rfl rfl (any_of HT_.out (by kernel_rfl)) (fun _ _ _ h => h) (Or.inl ⟨by rfl, ?_⟩) ?_ ?_
        rotate_left
        ·intro w'
         go_simp
         with_reducible rfl
        rotate_left
        ·simp only [Act.put, List.setIfInBounds_toArray, List.set_cons_zero, List.set_cons_succ, i64_w, i32_w]
         rfl
        refine pure_ (i := 1) (N := some 15) (v := ?_) (a' := ?_) #[true, true, false, false, false, false, false, false, false, false, false, false, false, false, false, false] rfl rfl (any_of HT_.out (by kernel_rfl)) (fun _ _ _ h => h) (Or.inl ⟨by rfl, ?_⟩) ?_ ?_
        rotate_left
        ·intro w'
         go_simp
         with_reducible rfl
        rotate_left
        ·simp only [Act.put, List.setIfInBounds_toArray, List.set_cons_zero, List.set_cons_succ, i64_w, i32_w]
         rfl
        refine pure_ (i := 2) (N := some 16) (v := ?_) (a' := ?_) #[true, true, true, false, false, false, false, false, false, false, false, false, false, false, false, false] rfl rfl (any_of HT_.out (by kernel_rfl)) (fun _ _ _ h => h) (Or.inl ⟨by rfl, ?_⟩) ?_ ?_
        rotate_left
        ·intro w'
         go_simp
         with_reducible rfl
        rotate_left
        ·simp only [Act.put, List.setIfInBounds_toArray, List.set_cons_zero, List.set_cons_succ, i64_w, i32_w]
         rfl
        refine pure_ (i := 3) (N := some 17) (v := ?_) (a' := ?_) #[true, true, true, true, false, false, false, false, false, false, false, false, false, false, false, false] rfl rfl (any_of HT_.out (by kernel_rfl)) (fun _ _ _ h => h) (Or.inl ⟨by rfl, ?_⟩) ?_ ?_
        rotate_left
        ·intro w'
         go_simp
         with_reducible rfl
        rotate_left
        ·simp only [Act.put, List.setIfInBounds_toArray, List.set_cons_zero, List.set_cons_succ, i64_w, i32_w]
         rfl
        refine pure_ (i := 4) (N := some 18) (v := ?_) (a' := ?_) #[true, true, true, true, true, false, false, false, false, false, false, false, false, false, false, false] rfl rfl (any_of HT_.out (by kernel_rfl)) (fun _ _ _ h => h) (Or.inl ⟨by rfl, ?_⟩) ?_ ?_
        rotate_left
        ·intro w'
         go_simp
         with_reducible rfl
        rotate_left
        ·simp only [Act.put, List.setIfInBounds_toArray, List.set_cons_zero, List.set_cons_succ, i64_w, i32_w]
         rfl
        refine pure_ (i := 5) (N := some 19) (v := ?_) (a' := ?_) #[true, true, true, true, true, true, false, false, false, false, false, false, false, false, false, false] rfl rfl (any_of HT_.out (by kernel_rfl)) (fun _ _ _ h => h) (Or.inl ⟨by rfl, ?_⟩) ?_ ?_
        rotate_left
        ·intro w'
         go_simp
         with_reducible rfl
        rotate_left
        ·simp only [Act.put, List.setIfInBounds_toArray, List.set_cons_zero, List.set_cons_succ, i64_w, i32_w]
         rfl
        refine pure_ (i := 6) (N := some 20) (v := ?_) (a' := ?_) #[true, true, true, true, true, true, true, false, false, false, false, false, false, false, false, false] rfl rfl (any_of HT_.out (by kernel_rfl)) (fun _ _ _ h => h) (Or.inl ⟨by rfl, ?_⟩) ?_ ?_
        rotate_left
        ·intro w'
         go_simp
         with_reducible rfl
        rotate_left
        ·simp only [Act.put, List.setIfInBounds_toArray, List.set_cons_zero, List.set_cons_succ, i64_w, i32_w]
         rfl
        refine pure_ (i := 8) (N := some 22) (v := ?_) (a' := ?_) #[true, true, true, true, true, true, true, false, true, false, false, false, false, false, false, false] rfl rfl (any_of HT_.out (by kernel_rfl)) (fun _ _ _ h => h) (Or.inl ⟨by rfl, ?_⟩) ?_ ?_
        rotate_left
        ·intro w'
         go_simp
         with_reducible rfl
        rotate_left
        ·simp only [Act.put, List.setIfInBounds_toArray, List.set_cons_zero, List.set_cons_succ, i64_w, i32_w]
         rfl
        refine pure_ (i := 9) (N := some 23) (v := ?_) (a' := ?_) #[true, true, true, true, true, true, true, false, true, true, false, false, false, false, false, false] rfl rfl (any_of HT_.out (by kernel_rfl)) (fun _ _ _ h => h) (Or.inl ⟨by rfl, ?_⟩) ?_ ?_
        rotate_left
        ·intro w'
         go_simp
         with_reducible rfl
        rotate_left
        ·simp only [Act.put, List.setIfInBounds_toArray, List.set_cons_zero, List.set_cons_succ, i64_w, i32_w]
         rfl
        refine pure_ (i := 10) (N := some 24) (v := ?_) (a' := ?_) #[true, true, true, true, true, true, true, false, true, true, true, false, false, false, false, false] rfl rfl (any_of HT_.out (by kernel_rfl)) (fun _ _ _ h => h) (Or.inl ⟨by rfl, ?_⟩) ?_ ?_
        rotate_left
        ·intro w'
         go_simp
         with_reducible rfl
        rotate_left
        ·simp only [Act.put, List.setIfInBounds_toArray, List.set_cons_zero, List.set_cons_succ, i64_w, i32_w]
         rfl
        refine take_ (i := 7) (N := some 21) (v := ?_) (a' := ?_) #[true, true, true, true, true, true, true, true, true, true, true, false, false, false, false, false] rfl rfl (take_ofW HT_.out HW_.out (by kernel_rfl)) (fun _ _ _ h => h) (Or.inl ⟨by rfl, ?_⟩) hHeld ?_ ?_
        rotate_left
        ·rintro w' ⟨s0, s1⟩
         go_simp
         with_reducible rfl
        rotate_left
        ·simp only [Act.put, List.setIfInBounds_toArray, List.set_cons_zero, List.set_cons_succ, i64_w, i32_w]
         rfl
        refine take_ (i := 11) (N := some 25) (v := ?_) (a' := ?_) #[true, true, true, true, true, true, true, true, true, true, true, true, false, false, false, false] rfl rfl (take_ofW HT_.out HW_.out (by kernel_rfl)) (fun _ _ _ h => h) (Or.inl ⟨by rfl, ?_⟩) hHeld ?_ ?_
        rotate_left
        ·rintro w' ⟨s0, s1⟩
         go_simp
         with_reducible rfl
        rotate_left
        ·simp only [Act.put, List.setIfInBounds_toArray, List.set_cons_zero, List.set_cons_succ, i64_w, i32_w]
         rfl
        refine pure_ (i := 12) (N := some 26) (v := ?_) (a' := ?_) #[true, true, true, true, true, true, true, true, true, true, true, true, true, false, false, false] rfl rfl (any_of HT_.out (by kernel_rfl)) (fun _ _ _ h => h) (Or.inl ⟨by rfl, ?_⟩) ?_ ?_
        rotate_left
        ·intro w'
         go_simp
         with_reducible rfl
        rotate_left
        ·simp only [Act.put, List.setIfInBounds_toArray, List.set_cons_zero, List.set_cons_succ, i64_w, i32_w]
         rfl
        refine last_ (i := 13) (N := none) #[true, true, true, true, true, true, true, true, true, true, true, true, true, true, false, false] rfl rfl (one_of HT_.out (by kernel_rfl)) (by decide) (fun K hK => ?_)
        refine skip_ (w1 := ?_) (by rfl) rfl ?_ ?_
        rotate_left
        ·go_simp
         rfl
        refine hK.out _ _ ?_
        clear hK K
        refine pure_ (i := 14) (N := some 27) (v := ?_) (a' := ?_) #[true, true, true, true, true, true, true, true, true, true, true, true, true, true, true, false] rfl rfl (any_of HT_.out (by kernel_rfl)) (fun _ _ _ h => h) (Or.inl ⟨by rfl, ?_⟩) ?_ ?_
        rotate_left
        ·intro w'
         go_simp
         with_reducible rfl
        rotate_left
        ·simp only [Act.put, List.setIfInBounds_toArray, List.set_cons_zero, List.set_cons_succ, i64_w, i32_w]
         rfl
        refine last_ (i := 15) (N := none) #[true, true, true, true, true, true, true, true, true, true, true, true, true, true, true, true] rfl rfl (one_of HT_.out (by kernel_rfl)) (by decide) (fun K hK => ?_)
        refine skip_ (w1 := ?_) (by rfl) rfl ?_ ?_
        rotate_left
        ·go_simp
         rfl
        refine hK.out _ _ ?_
        clear hK K
        refine done_ (done_of HT_.out (by kernel_rfl)) ?_
        try go_wp2
        (try simp only [← hl0_1])
        go_roundg k1
        case measure => have := HK1.out; omega
        case rel => exact ⟨(y111), (wrap64 (x2_1 + 1)), (wrap64 (x3_1 - 1)), (by first | rfl | (simp; done) | (simp [*]; done)), (by first | rfl | (simp; done) | (simp [*]; done)), H', ⟨by have := HK1.out; omega⟩, ⟨by (try simp only [hl0_1]); (with_reducible repeat (first | apply Kd.R_alloc | apply Kd.R_drewN | apply Kd.R_drew)); exact HQ12.out⟩, ⟨by repeat (first | (with_reducible first | exact HK.out | apply Kept.alloc | apply Kept.drewN | apply Kept.drew | refine Kept.setCell ?_ HMgo8.out _ | refine Kept.setCell ?_ HMgo8.out _) | exact HK.out)⟩, ⟨by repeat (first | (with_reducible first | exact HB.out | apply below_alloc | apply pw_below_drewN | apply below_drew1 | refine below_set ?_ GB8.out | refine below_set ?_ GB8.out) | exact HB.out)⟩⟩
       ·rw [if_neg c7] at H
        exact absurd H (by simp)
      ·rw [if_neg c6] at H
       exact absurd H (by simp)
     ·rw [if_neg c5] at H
      exact absurd H (by simp)
    ·rw [if_neg c4] at H
     exact absurd H (by simp)
   ·rw [if_neg c3] at H
    have c3b0 : decide (x2_1 < x3_1) = false := decide_eq_false c3
    clear c3
    obtain rfl := Option.some.inj H
    go_wp2
    first | go_end0 | ((try simp only [Exit.inBlock, Exit.then]); refine bodyPost_ret (results_none rfl _ _ _) rfl ?_)
    exact ⟨by first | rfl | (simp [errW_none, errW_some] <;> rfl) | (simp [*, errW_none, errW_some] <;> rfl), (by first | exact (by (with_reducible repeat (first | apply Kd.R_alloc | apply Kd.R_drewN | apply Kd.R_drew)); exact HO_0.out) | (simp only [hl0_1]; exact (by (with_reducible repeat (first | apply Kd.R_alloc | apply Kd.R_drewN | apply Kd.R_drew)); exact HO_0.out))), by repeat (first | (with_reducible first | exact HB.out | apply below_alloc | apply pw_below_drewN | apply below_drew1) | exact HB.out), by repeat (first | (with_reducible first | exact HK.out | apply Kept.alloc | apply Kept.drewN | apply Kept.drew) | exact HK.out)⟩

end Go.Proofs.YtgejnljpdfjgpaaDoor.Q
