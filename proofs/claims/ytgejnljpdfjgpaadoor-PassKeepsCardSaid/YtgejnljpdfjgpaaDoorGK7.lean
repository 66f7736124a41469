/- A part of the proof of this claim (part 7 of 16): contracts of callees and plain facts, each with its own conditions before its statement. -/
import Derived.Test.YtgejnljpdfjgpaaDoorGK1
import Derived.Test.YtgejnljpdfjgpaaDoorGK5
import Derived.Test.YtgejnljpdfjgpaaDoorGK6
set_option linter.unusedVariables false
set_option linter.unusedSimpArgs false
/- pass.Up: parents have what their children have. Its conditions: the tree and the relations are read at the call; as many relations as bags; the order; sizes; the rows' numbers are int64's; strconv's table. -/
namespace Go.Proofs.YtgejnljpdfjgpaaDoor.Q
open Go.RowKit Go.Proofs Go.Proofs.YtgejnljpdfjgpaaDoorW.PrintWords Go.Proofs.YtgejnljpdfjgpaaDoorW.PrintLast Go.Proofs.YtgejnljpdfjgpaaDoorW.PrintMore
set_option linter.unusedVariables false
set_option linter.unusedSimpArgs false

/-- One step: relation p keeps what goes together with relation i. -/
def semiAt (xs : List S36) (p i : Nat) : List S36 := xs.set p (semiS (xs.getD p z36) (xs.getD i z36))
def upL (xs : List S36) (steps : List (Int × Int)) : List S36 := steps.foldl (fun l s => semiAt l s.2.toNat s.1.toNat) xs
def downL (xs : List S36) (steps : List (Int × Int)) : List S36 := steps.foldl (fun l s => semiAt l s.1.toNat s.2.toNat) xs
theorem semiS_good {a b : S36} (h : RelGood a) : RelGood (semiS a b) :=
  ⟨h.sch, Nat.lt_of_le_of_lt (List.length_filter_le _ _) h.rows, fun t ht => h.each t (List.mem_filter.1 ht).1, fun t ht => h.num t (List.mem_filter.1 ht).1⟩
theorem semiAt_good {xs : List S36} {p i : Nat} (h : ∀ x ∈ xs, RelGood x) (hp : p < xs.length) : ∀ x ∈ semiAt xs p i, RelGood x := fun x hx => by
  rcases List.mem_or_eq_of_mem_set hx with hx | rfl
  · exact h x hx
  · refine semiS_good (h _ ?_)
    rw [List.getD_eq_getElem?_getD, List.getElem?_eq_getElem hp]
    exact List.getElem_mem hp
theorem semiAt_len (xs : List S36) (p i : Nat) : (semiAt xs p i).length = xs.length := by simp [semiAt]
theorem upL_good (steps : List (Int × Int)) : ∀ {xs : List S36}, (∀ x ∈ xs, RelGood x) → (∀ s ∈ steps, s.2.toNat < xs.length) → (∀ x ∈ upL xs steps, RelGood x) ∧ (upL xs steps).length = xs.length := by
  induction steps with
  | nil => exact fun h _ => ⟨h, rfl⟩
  | cons s steps ih =>
    intro xs h hs
    have h1 := hs s (List.mem_cons_self ..)
    have := ih (xs := semiAt xs s.2.toNat s.1.toNat) (semiAt_good h h1) (fun t ht => by rw [semiAt_len]; exact hs t (List.mem_cons_of_mem _ ht))
    rw [semiAt_len] at this
    exact this
theorem upL_snoc (xs : List S36) (ps : List (Int × Int)) (s : Int × Int) : upL xs (ps ++ [s]) = semiAt (upL xs ps) s.2.toNat s.1.toNat := by
  unfold upL
  rw [List.foldl_append]
  rfl
theorem downL_good (steps : List (Int × Int)) : ∀ {xs : List S36}, (∀ x ∈ xs, RelGood x) → (∀ s ∈ steps, s.1.toNat < xs.length) → (∀ x ∈ downL xs steps, RelGood x) ∧ (downL xs steps).length = xs.length := by
  induction steps with
  | nil => exact fun h _ => ⟨h, rfl⟩
  | cons s steps ih =>
    intro xs h hs
    have h1 := hs s (List.mem_cons_self ..)
    have := ih (xs := semiAt xs s.1.toNat s.2.toNat) (semiAt_good h h1) (fun t ht => by rw [semiAt_len]; exact hs t (List.mem_cons_of_mem _ ht))
    rw [semiAt_len] at this
    exact this
theorem downL_snoc (xs : List S36) (ps : List (Int × Int)) (s : Int × Int) : downL xs (ps ++ [s]) = semiAt (downL xs ps) s.1.toNat s.2.toNat := by
  unfold downL
  rw [List.foldl_append]
  rfl

theorem map_semi {rs : List RelEl} {p i : Nat} {ri rp r' : RelEl} (hi : rs[i]? = some ri) (hp : rs[p]? = some rp) (h : relOf r' = semiS (relOf rp) (relOf ri)) : (rs.set p r').map relOf = semiAt (rs.map relOf) p i := by
  unfold semiAt
  rw [List.map_set, h]
  congr 2
  · rw [List.getD_eq_getElem?_getD, List.getElem?_map, hp]; rfl
  · rw [List.getD_eq_getElem?_getD, List.getElem?_map, hi]; rfl

set_option maxHeartbeats 2000000 in
set_option maxRecDepth 100000 in
theorem pass_Up.calls (kf kr : Nat) (A0 : Option Addr) (c0 : Nat) (bags : List (List Int)) (A1 : Option Addr) (c1 : Nat) (par : List Int) (A2 : Option Addr) (c2 : Nat) (xs : List S36) (L0 L : List Int) (w : World)
    (hr0 : Kd.C (Kd.slice 3 (Kd.int .i64)) w A0 bags.length bags) (hc0 : bags.length ≤ c0) (hr1 : Kd.C (Kd.int .i64) w A1 par.length par) (hc1 : par.length ≤ c1) (hr2 : Kd.C k36 w A2 xs.length xs)
    (hlen : xs.length = bags.length) (hl : xs.length < 1073741824) (hL0 : place_After.f kf bags par = some L0) (hL : L = L0) (hLi : ∀ i ∈ L, 0 ≤ i ∧ i < par.length) (hst : ∀ s ∈ stepsOf par L, 0 ≤ s.1 ∧ s.1.toNat < xs.length ∧ 0 ≤ s.2 ∧ s.2.toNat < xs.length)
    (hgood : ∀ x ∈ xs, RelGood x) (hT : TabOk w) :
    Calls Tryd.prog 9 #[.agg #[.slice A0 bags.length c0, .slice A1 par.length c1], .slice A2 xs.length c2] w fun e w' => ∃ (g : Nat) (rs : List RelEl), e = .returned (.tuple #[.slice (some ⟨g, 0, none⟩) xs.length xs.length, .int .i64 0]) ∧ RelsAt w' w.heap.size g rs ∧ rs.map relOf = upL xs (stepsOf par L) ∧ Below w.heap.size w w' := by
  have HR0 := Aside0.mk hr0
  have HC0 := Aside0.mk hc0
  have HR1 := Aside0.mk hr1
  have HC1 := Aside0.mk hc1
  have HR2 := Aside0.mk hr2
  have HL0 := Aside0.mk hL0
  have HL := Aside0.mk hL
  have HLI := Aside0.mk hLi
  have HST := Aside0.mk hst
  have HGO := Aside0.mk hgood
  have HT := Aside0.mk hT
  have HXL := Aside0.mk hl
  have hq2 : ((xs.length : Int) == (bags.length : Int)) = true := by rw [beq_iff_eq]; omega
  have hq : decide ((xs.length : Int) = (bags.length : Int)) = true := decide_eq_true (by omega)
  have hq3 : decide (xs.length = bags.length) = true := decide_eq_true (by omega)
  have HLEN := Aside0.mk hlen
  clear hr0 hc0 hr1 hc1 hr2 hL0 hL hLi hst hgood hT hlen hl
  go_enter Tryd.func9, Tryd.ntmps9
  go_wp2_with fail
  have hb0 : Below w.heap.size w ((w.alloc (.cells #[.slice A0 bags.length c0, .slice A1 par.length c1] 27)).alloc (.cells #[.slice A2 xs.length c2] 28)) := ((Below.refl _ _).alloc (Nat.le_refl _) _).alloc (by simp) _
  refine (pass_copied.calls A2 c2 xs _ (Kd.C_below HR2.out hb0) HXL.out (fun x hx => ⟨(HGO.out x hx).sch, (HGO.out x hx).rows, (HGO.out x hx).each⟩)).mono ?_
  rintro e w1 ⟨g, rs, rfl, hrs, hmp, hb1⟩
  have htr : w1.heap[w.heap.size]? = some (.cells #[.slice A0 bags.length c0, .slice A1 par.length c1] 27 (0, 0)) := blk_below (blk_alloc (heap_alloc_new w _) _) hb1
  have hbx : w1.heap[w.heap.size + 1]? = some (.cells #[.slice A2 xs.length c2] 28 (0, 0)) := blk_below (by have := heap_alloc_new (w.alloc (.cells #[.slice A0 bags.length c0, .slice A1 par.length c1] 27)) (.cells #[.slice A2 xs.length c2] 28); simpa using this) hb1
  have hbf := blk_frozen hbx 0
  have HB1 := Aside0.mk (below_step hb0 hb1)
  have HRS : Aside0 (RelsAt w1 (w.heap.size + 2) g rs) := ⟨by simpa using hrs⟩
  have HMP := Aside0.mk hmp
  have HBX := Aside0.mk hbx
  have HTR := Aside0.mk htr
  have HSZ := Aside0.mk (show w.heap.size + 2 ≤ w1.heap.size ∧ w.heap.size + 2 ≤ g from ⟨by have := hb1.size; simpa using this, by have := HRS.out.ge; exact this⟩)
  have hg2 := grown_setCell w1 (w.heap.size + 1) 0 (.slice (some ⟨g, 0, none⟩) xs.length xs.length)
  have htr2 := blk_grown htr hg2 (fun e => by injection e; omega)
  have hbx2 := blk_put hbx 0 (.slice (some ⟨g, 0, none⟩) xs.length xs.length) rfl
  have hta := (blk_cell htr2 0).trans rfl
  have htb := (blk_cell htr2 1).trans rfl
  have HBX2 := Aside0.mk hbx2
  have HB2 := Aside0.mk (HB1.out.setCell (p := ⟨w.heap.size + 1, 0, none⟩) (by simp) (.slice (some ⟨g, 0, none⟩) xs.length xs.length))
  have HRS2 := Aside0.mk (HRS.out.older hg2 (by omega))
  have hcc := (blk_cell hbx 0).trans rfl
  clear htr hbx hb0 hb1 hrs hmp hg2 htr2 hbx2
  go_wp2_with fail
  generalize w1.setCell ⟨w.heap.size + 1, 0, none⟩ (.slice (some ⟨g, 0, none⟩) xs.length xs.length) = W2 at HBX2 HB2 HRS2 hta htb ⊢
  clear hbf hcc
  have HGW := Aside0.mk (HRS2.out.lt)
  have HRL := Aside0.mk (show rs.length = xs.length by have := congrArg List.length HMP.out; simpa using this)
  refine (pass_edges.calls kf kr A0 c0 bags A1 c1 par false 18 #[.pointer (some ⟨w.heap.size + 1, 0, none⟩)] L0 L g W2 (Kd.C_below HR0.out HB2.out) HC0.out (Kd.C_below HR1.out HB2.out) HC1.out HL0.out (by simpa using HL.out) HLI.out HGW.out
    (fun W hW => Kd.C_below HR1.out (pw_below_grown HB2.out (some g) HB2.out.size hW (fun k hk => by have := HSZ.out.2; cases hk; omega))) (fun _ _ => rfl)
    (fun ps W => W.heap[w.heap.size + 1]? = some (.cells #[.slice (some ⟨g, 0, none⟩) xs.length xs.length] 28 (0, 0)) ∧ Below w.heap.size w W ∧ ∃ rs', RelsAt W (w.heap.size + 2) g rs' ∧ rs'.map relOf = upL xs ps)
    ⟨HBX2.out, HB2.out, rs, HRS2.out, HMP.out⟩
    (fun ps W W' hI hb => by
      obtain ⟨h1, h2, rs', h3, h4⟩ := hI
      exact ⟨blk_below h1 hb, below_step h2 hb, rs', h3.below hb, h4⟩)
    (fun ps W i p hI hgr hpre hmem => by
      obtain ⟨h1, h2, rs', h3, h4⟩ := hI
      obtain ⟨a1, a2, a3, a4⟩ := HST.out _ hmem
      obtain ⟨i, rfl⟩ := Int.eq_ofNat_of_zero_le a1
      obtain ⟨p, rfl⟩ := Int.eq_ofNat_of_zero_le a3
      have a2 : i < xs.length := a2
      have a4 : p < xs.length := a4
      obtain ⟨hgo, hln⟩ := upL_good ps HGO.out (fun s hs => (HST.out s (hpre.subset hs)).2.2.2)
      have hrl : rs'.length = xs.length := by have := congrArg List.length h4; rw [hln] at this; simpa using this
      have hi : rs'[i]? = some (rs'[i]'(by omega)) := List.getElem?_eq_getElem _
      have hp : rs'[p]? = some (rs'[p]'(by omega)) := List.getElem?_eq_getElem _
      have hgi : RelGood (relOf (rs'[i]'(by omega))) := hgo _ (by rw [← h4]; exact List.mem_map.2 ⟨_, List.getElem_mem _, rfl⟩)
      have hgp : RelGood (relOf (rs'[p]'(by omega))) := hgo _ (by rw [← h4]; exact List.mem_map.2 ⟨_, List.getElem_mem _, rfl⟩)
      refine (pass_Up_1.calls i p (w.heap.size + 1) g (w.heap.size + 2) rs' _ _ W (by rw [hrl]; exact h1) h3 (by rw [hrl]; exact HXL.out) hi hp hgi hgp (HT.out.on h2) (by have := h2.size; have := h3.lt; have := h3.ge; omega)).mono ?_
      rintro e W' ⟨rfl, ⟨r', hr', hrs'⟩, hg'⟩
      refine ⟨rfl, ⟨blk_grown h1 hg' (fun e => by have := HSZ.out.2; injection e; omega), pw_below_grown h2 (some g) h2.size hg' (fun k hk => by have := HSZ.out.2; cases hk; omega), _, hrs', ?_⟩, hg'⟩
      rw [upL_snoc, ← h4]
      exact map_semi hi hp hr')).mono ?_
  rintro e w3 ⟨rfl, ⟨h1, h2, rs', h3, h4⟩, h5⟩
  have hcc := (blk_cell h1 0).trans rfl
  have H2 := Aside0.mk h2
  have H3 := Aside0.mk h3
  have H4 := Aside0.mk h4
  clear h1 h2 h3 h4 h5 hta htb
  go_wp2_with fail
  go_ret2
  exact ⟨g, rs', rfl, H3.out.lower (by omega), H4.out, H2.out⟩

set_option maxHeartbeats 2000000 in
set_option maxRecDepth 100000 in
theorem pass_Down.calls (kf kr : Nat) (A0 : Option Addr) (c0 : Nat) (bags : List (List Int)) (A1 : Option Addr) (c1 : Nat) (par : List Int) (A2 : Option Addr) (c2 : Nat) (xs : List S36) (L0 L : List Int) (w : World)
    (hr0 : Kd.C (Kd.slice 3 (Kd.int .i64)) w A0 bags.length bags) (hc0 : bags.length ≤ c0) (hr1 : Kd.C (Kd.int .i64) w A1 par.length par) (hc1 : par.length ≤ c1) (hr2 : Kd.C k36 w A2 xs.length xs)
    (hlen : xs.length = bags.length) (hl : xs.length < 1073741824) (hL0 : place_After.f kf bags par = some L0) (hL : slices_Reverse_int_int.f kr L0 = some L) (hLi : ∀ i ∈ L, 0 ≤ i ∧ i < par.length) (hst : ∀ s ∈ stepsOf par L, 0 ≤ s.1 ∧ s.1.toNat < xs.length ∧ 0 ≤ s.2 ∧ s.2.toNat < xs.length)
    (hgood : ∀ x ∈ xs, RelGood x) (hT : TabOk w) :
    Calls Tryd.prog 10 #[.agg #[.slice A0 bags.length c0, .slice A1 par.length c1], .slice A2 xs.length c2] w fun e w' => ∃ (g : Nat) (rs : List RelEl), e = .returned (.tuple #[.slice (some ⟨g, 0, none⟩) xs.length xs.length, .int .i64 0]) ∧ RelsAt w' w.heap.size g rs ∧ rs.map relOf = downL xs (stepsOf par L) ∧ Below w.heap.size w w' := by
  have HR0 := Aside0.mk hr0
  have HC0 := Aside0.mk hc0
  have HR1 := Aside0.mk hr1
  have HC1 := Aside0.mk hc1
  have HR2 := Aside0.mk hr2
  have HL0 := Aside0.mk hL0
  have HL := Aside0.mk hL
  have HLI := Aside0.mk hLi
  have HST := Aside0.mk hst
  have HGO := Aside0.mk hgood
  have HT := Aside0.mk hT
  have HXL := Aside0.mk hl
  have hq2 : ((xs.length : Int) == (bags.length : Int)) = true := by rw [beq_iff_eq]; omega
  have hq : decide ((xs.length : Int) = (bags.length : Int)) = true := decide_eq_true (by omega)
  have hq3 : decide (xs.length = bags.length) = true := decide_eq_true (by omega)
  have HLEN := Aside0.mk hlen
  clear hr0 hc0 hr1 hc1 hr2 hL0 hL hLi hst hgood hT hlen hl
  go_enter Tryd.func10, Tryd.ntmps10
  go_wp2_with fail
  have hb0 : Below w.heap.size w ((w.alloc (.cells #[.slice A0 bags.length c0, .slice A1 par.length c1] 27)).alloc (.cells #[.slice A2 xs.length c2] 28)) := ((Below.refl _ _).alloc (Nat.le_refl _) _).alloc (by simp) _
  refine (pass_copied.calls A2 c2 xs _ (Kd.C_below HR2.out hb0) HXL.out (fun x hx => ⟨(HGO.out x hx).sch, (HGO.out x hx).rows, (HGO.out x hx).each⟩)).mono ?_
  rintro e w1 ⟨g, rs, rfl, hrs, hmp, hb1⟩
  have htr : w1.heap[w.heap.size]? = some (.cells #[.slice A0 bags.length c0, .slice A1 par.length c1] 27 (0, 0)) := blk_below (blk_alloc (heap_alloc_new w _) _) hb1
  have hbx : w1.heap[w.heap.size + 1]? = some (.cells #[.slice A2 xs.length c2] 28 (0, 0)) := blk_below (by have := heap_alloc_new (w.alloc (.cells #[.slice A0 bags.length c0, .slice A1 par.length c1] 27)) (.cells #[.slice A2 xs.length c2] 28); simpa using this) hb1
  have hbf := blk_frozen hbx 0
  have HB1 := Aside0.mk (below_step hb0 hb1)
  have HRS : Aside0 (RelsAt w1 (w.heap.size + 2) g rs) := ⟨by simpa using hrs⟩
  have HMP := Aside0.mk hmp
  have HBX := Aside0.mk hbx
  have HTR := Aside0.mk htr
  have HSZ := Aside0.mk (show w.heap.size + 2 ≤ w1.heap.size ∧ w.heap.size + 2 ≤ g from ⟨by have := hb1.size; simpa using this, by have := HRS.out.ge; exact this⟩)
  have hg2 := grown_setCell w1 (w.heap.size + 1) 0 (.slice (some ⟨g, 0, none⟩) xs.length xs.length)
  have htr2 := blk_grown htr hg2 (fun e => by injection e; omega)
  have hbx2 := blk_put hbx 0 (.slice (some ⟨g, 0, none⟩) xs.length xs.length) rfl
  have hta := (blk_cell htr2 0).trans rfl
  have htb := (blk_cell htr2 1).trans rfl
  have HBX2 := Aside0.mk hbx2
  have HB2 := Aside0.mk (HB1.out.setCell (p := ⟨w.heap.size + 1, 0, none⟩) (by simp) (.slice (some ⟨g, 0, none⟩) xs.length xs.length))
  have HRS2 := Aside0.mk (HRS.out.older hg2 (by omega))
  have hcc := (blk_cell hbx 0).trans rfl
  clear htr hbx hb0 hb1 hrs hmp hg2 htr2 hbx2
  go_wp2_with fail
  generalize w1.setCell ⟨w.heap.size + 1, 0, none⟩ (.slice (some ⟨g, 0, none⟩) xs.length xs.length) = W2 at HBX2 HB2 HRS2 hta htb ⊢
  clear hbf hcc
  have HGW := Aside0.mk (HRS2.out.lt)
  have HRL := Aside0.mk (show rs.length = xs.length by have := congrArg List.length HMP.out; simpa using this)
  refine (pass_edges.calls kf kr A0 c0 bags A1 c1 par true 20 #[.pointer (some ⟨w.heap.size + 1, 0, none⟩)] L0 L g W2 (Kd.C_below HR0.out HB2.out) HC0.out (Kd.C_below HR1.out HB2.out) HC1.out HL0.out (by simpa using HL.out) HLI.out HGW.out
    (fun W hW => Kd.C_below HR1.out (pw_below_grown HB2.out (some g) HB2.out.size hW (fun k hk => by have := HSZ.out.2; cases hk; omega))) (fun _ _ => rfl)
    (fun ps W => W.heap[w.heap.size + 1]? = some (.cells #[.slice (some ⟨g, 0, none⟩) xs.length xs.length] 28 (0, 0)) ∧ Below w.heap.size w W ∧ ∃ rs', RelsAt W (w.heap.size + 2) g rs' ∧ rs'.map relOf = downL xs ps)
    ⟨HBX2.out, HB2.out, rs, HRS2.out, HMP.out⟩
    (fun ps W W' hI hb => by
      obtain ⟨h1, h2, rs', h3, h4⟩ := hI
      exact ⟨blk_below h1 hb, below_step h2 hb, rs', h3.below hb, h4⟩)
    (fun ps W i p hI hgr hpre hmem => by
      obtain ⟨h1, h2, rs', h3, h4⟩ := hI
      obtain ⟨a1, a2, a3, a4⟩ := HST.out _ hmem
      obtain ⟨i, rfl⟩ := Int.eq_ofNat_of_zero_le a1
      obtain ⟨p, rfl⟩ := Int.eq_ofNat_of_zero_le a3
      have a2 : i < xs.length := a2
      have a4 : p < xs.length := a4
      obtain ⟨hgo, hln⟩ := downL_good ps HGO.out (fun s hs => (HST.out s (hpre.subset hs)).2.1)
      have hrl : rs'.length = xs.length := by have := congrArg List.length h4; rw [hln] at this; simpa using this
      have hi : rs'[i]? = some (rs'[i]'(by omega)) := List.getElem?_eq_getElem _
      have hp : rs'[p]? = some (rs'[p]'(by omega)) := List.getElem?_eq_getElem _
      have hgi : RelGood (relOf (rs'[i]'(by omega))) := hgo _ (by rw [← h4]; exact List.mem_map.2 ⟨_, List.getElem_mem _, rfl⟩)
      have hgp : RelGood (relOf (rs'[p]'(by omega))) := hgo _ (by rw [← h4]; exact List.mem_map.2 ⟨_, List.getElem_mem _, rfl⟩)
      refine (pass_Down_1.calls p i (w.heap.size + 1) g (w.heap.size + 2) rs' _ _ W (by rw [hrl]; exact h1) h3 (by rw [hrl]; exact HXL.out) hp hi hgp hgi (HT.out.on h2) (by have := h2.size; have := h3.lt; have := h3.ge; omega)).mono ?_
      rintro e W' ⟨rfl, ⟨r', hr', hrs'⟩, hg'⟩
      refine ⟨rfl, ⟨blk_grown h1 hg' (fun e => by have := HSZ.out.2; injection e; omega), pw_below_grown h2 (some g) h2.size hg' (fun k hk => by have := HSZ.out.2; cases hk; omega), _, hrs', ?_⟩, hg'⟩
      rw [downL_snoc, ← h4]
      exact map_semi hp hi hr')).mono ?_
  rintro e w3 ⟨rfl, ⟨h1, h2, rs', h3, h4⟩, h5⟩
  have hcc := (blk_cell h1 0).trans rfl
  have H2 := Aside0.mk h2
  have H3 := Aside0.mk h3
  have H4 := Aside0.mk h4
  clear h1 h2 h3 h4 h5 hta htb
  go_wp2_with fail
  go_ret2
  exact ⟨g, rs', rfl, H3.out.lower (by omega), H4.out, H2.out⟩

end Go.Proofs.YtgejnljpdfjgpaaDoor.Q
/- Plain facts on trees of few bags: the order of place.After, and what going up and down it does. No memory in it. -/
namespace Go.Proofs.YtgejnljpdfjgpaaDoor.Q
open Go.RowKit Go.Proofs.YtgejnljpdfjgpaaDoorW.PrintWords Go.Proofs.YtgejnljpdfjgpaaDoorW.PrintLast Go.Proofs.YtgejnljpdfjgpaaDoorW.PrintMore

/-- Each parent is ahead of its child. -/
def GoodPar (par : List Int) : Prop := ∀ (i : Nat) (p : Int), par[i]? = some p → if i = 0 then p = -1 else 0 ≤ p ∧ p < (i : Int)
def allPars : Nat → List (List Int)
  | 0 => [[]]
  | 1 => [[-1]]
  | n + 2 => (allPars (n + 1)).flatMap fun p => (List.range (n + 1)).map fun (j : Nat) => p ++ [(j : Int)]

theorem mem_allPars (n : Nat) : ∀ par : List Int, par.length = n → GoodPar par → par ∈ allPars n := by
  induction n with
  | zero => intro par h _; rw [List.length_eq_zero_iff.1 h]; simp [allPars]
  | succ n ih =>
    intro par h hg
    rcases List.eq_nil_or_concat par with rfl | ⟨q, p, rfl⟩
    · simp at h
    · rw [List.concat_eq_append] at h hg ⊢
      have hq : q.length = n := by simpa using h
      have hgq : GoodPar q := fun i x hx => hg i x (by rw [List.getElem?_append_left (List.getElem?_eq_some_iff.1 hx).1]; exact hx)
      have hp := hg n p (by rw [← hq, List.getElem?_append_right (Nat.le_refl _)]; simp)
      match n, ih, hq, hp with
      | 0, _, hq, hp =>
        rw [List.length_eq_zero_iff.1 hq]
        simp only [if_true] at hp
        simp [allPars, hp]
      | n + 1, ih, hq, hp =>
        rw [if_neg (by omega)] at hp
        unfold allPars
        refine List.mem_flatMap.2 ⟨q, ih q hq hgq, List.mem_map.2 ⟨p.toNat, List.mem_range.2 (by omega), ?_⟩⟩
        rw [Int.toNat_of_nonneg hp.1]

def flagStep (e : List Bool) (p i : Nat) : List Bool := e.set p (e.getD p false || e.getD i false)
def upF (e : List Bool) (steps : List (Int × Int)) : List Bool := steps.foldl (fun e s => flagStep e s.2.toNat s.1.toNat) e
def downF (e : List Bool) (steps : List (Int × Int)) : List Bool := steps.foldl (fun e s => flagStep e s.1.toNat s.2.toNat) e
def stepsIn (n : Nat) (steps : List (Int × Int)) : Bool := steps.all fun s => decide (0 ≤ s.1 ∧ s.1.toNat < n ∧ 0 ≤ s.2 ∧ s.2.toNat < n)
def checkPar (par : List Int) : Bool :=
  match place_After.f 60 [] par with
  | none => false
  | some L0 =>
    match slices_Reverse_int_int.f 60 L0 with
    | none => false
    | some L => (L0.all fun i => decide (0 ≤ i ∧ i < (par.length : Int))) && (L.all fun i => decide (0 ≤ i ∧ i < (par.length : Int))) && stepsIn par.length (stepsOf par L0) && stepsIn par.length (stepsOf par L)
        && (List.range par.length).all fun at_ => downF (upF ((List.replicate par.length false).set at_ true) (stepsOf par L0)) (stepsOf par L) == List.replicate par.length true

set_option maxRecDepth 100000 in
theorem checked : ((List.range 7).flatMap allPars).all checkPar = true := by decide +kernel

theorem after_bags (k : Nat) : (∀ bags x2 x3 par, place_After.l0 k x2 x3 bags par = place_After.l0 k x2 x3 [] par) ∧ (∀ bags x2 x3 b par, place_After.j1 k x2 x3 b bags par = place_After.j1 k x2 x3 b [] par) := by
  induction k with
  | zero => exact ⟨fun _ _ _ _ => rfl, fun _ _ _ _ _ => rfl⟩
  | succ k ih =>
    refine ⟨fun bags x2 x3 par => ?_, fun bags x2 x3 b par => ?_⟩
    · simp only [place_After.l0]
      rw [ih.2 bags, ih.2 bags]
    · simp only [place_After.j1]
      have e : ∀ y x p, place_Children.f y bags x p = place_Children.f y [] x p := fun _ _ _ => rfl
      simp only [e]
      simp only [fun a b c => ih.1 bags a b c]
theorem after_nil (k : Nat) (bags : List (List Int)) (par : List Int) : place_After.f k bags par = place_After.f k [] par := by
  unfold place_After.f
  simp only [fun a b c => (after_bags k).1 bags a b c]

structure TreeOk (par : List Int) (L0 L : List Int) : Prop where
  in0 : ∀ i ∈ L0, 0 ≤ i ∧ i < (par.length : Int)
  in1 : ∀ i ∈ L, 0 ≤ i ∧ i < (par.length : Int)
  st0 : ∀ s ∈ stepsOf par L0, 0 ≤ s.1 ∧ s.1.toNat < par.length ∧ 0 ≤ s.2 ∧ s.2.toNat < par.length
  st1 : ∀ s ∈ stepsOf par L, 0 ≤ s.1 ∧ s.1.toNat < par.length ∧ 0 ≤ s.2 ∧ s.2.toNat < par.length
  none : ∀ at_, at_ < par.length → downF (upF ((List.replicate par.length false).set at_ true) (stepsOf par L0)) (stepsOf par L) = List.replicate par.length true

theorem tree_ok (bags : List (List Int)) (par : List Int) (hn : par.length ≤ 6) (hg : GoodPar par) : ∃ L0 L, place_After.f 60 bags par = some L0 ∧ slices_Reverse_int_int.f 60 L0 = some L ∧ TreeOk par L0 L := by
  have hc := List.all_eq_true.1 checked par (List.mem_flatMap.2 ⟨par.length, List.mem_range.2 (by omega), mem_allPars _ par rfl hg⟩)
  unfold checkPar at hc
  cases h0 : place_After.f 60 [] par with
  | none => rw [h0] at hc; cases hc
  | some L0 =>
    rw [h0] at hc
    cases h1 : slices_Reverse_int_int.f 60 L0 with
    | none => simp only [h1] at hc; cases hc
    | some L =>
      simp only [h1, Bool.and_eq_true] at hc
      obtain ⟨⟨⟨⟨c1, c2⟩, c3⟩, c4⟩, c5⟩ := hc
      refine ⟨L0, L, by rw [after_nil]; exact h0, h1, ?_, ?_, ?_, ?_, ?_⟩
      · exact fun i hi => of_decide_eq_true (List.all_eq_true.1 c1 i hi)
      · exact fun i hi => of_decide_eq_true (List.all_eq_true.1 c2 i hi)
      · exact fun s hs => of_decide_eq_true (List.all_eq_true.1 c3 s hs)
      · exact fun s hs => of_decide_eq_true (List.all_eq_true.1 c4 s hs)
      · exact fun a ha => by simpa using List.all_eq_true.1 c5 a (List.mem_range.2 ha)

/-- Where a flag is there is nothing. -/
def Flags (e : List Bool) (xs : List S36) : Prop := ∀ j, e.getD j false = true → (xs.getD j z36).f1 = []
theorem semiS_none {a b : S36} (h : a.f1 = [] ∨ b.f1 = []) : (semiS a b).f1 = [] := by
  unfold semiS semiL
  rcases h with h | h
  · rw [h]; rfl
  · rw [h]; simp
theorem flags_step {e : List Bool} {xs : List S36} (h : Flags e xs) (p i : Nat) : Flags (flagStep e p i) (semiAt xs p i) := by
  intro j hj
  unfold flagStep at hj
  unfold semiAt
  rw [List.getD_eq_getElem?_getD, List.getElem?_set] at hj ⊢
  by_cases hp : p = j
  · subst hp
    rw [if_pos rfl] at hj ⊢
    by_cases hx : p < xs.length
    · rw [if_pos hx]
      by_cases he : p < e.length
      · rw [if_pos he] at hj
        simp only [Option.getD_some, Bool.or_eq_true] at hj
        exact semiS_none (hj.imp (h p) (h i))
      · rw [if_neg he] at hj
        simp at hj
    · rw [if_neg hx]; rfl
  · rw [if_neg hp] at hj ⊢
    have := h j (by rw [List.getD_eq_getElem?_getD]; exact hj)
    rwa [List.getD_eq_getElem?_getD] at this
theorem flags_up (steps : List (Int × Int)) : ∀ {e : List Bool} {xs : List S36}, Flags e xs → Flags (upF e steps) (upL xs steps) := by
  induction steps with
  | nil => exact fun h => h
  | cons s steps ih => exact fun h => ih (flags_step h _ _)
theorem flags_down (steps : List (Int × Int)) : ∀ {e : List Bool} {xs : List S36}, Flags e xs → Flags (downF e steps) (downL xs steps) := by
  induction steps with
  | nil => exact fun h => h
  | cons s steps ih => exact fun h => ih (flags_step h _ _)
theorem semiAt_f0 (xs : List S36) (p i : Nat) : (semiAt xs p i).map (·.f0) = xs.map (·.f0) := by
  unfold semiAt
  rw [List.map_set]
  apply List.ext_getElem?
  intro j
  rw [List.getElem?_set]
  by_cases hp : p = j
  · subst hp
    rw [if_pos rfl]
    by_cases hx : p < xs.length
    · rw [if_pos (by simpa using hx), List.getElem?_map, List.getElem?_eq_getElem hx]
      simp [semiS, List.getD_eq_getElem?_getD, List.getElem?_eq_getElem hx]
    · rw [if_neg (by simpa using hx), List.getElem?_eq_none (by simpa using hx)]
  · rw [if_neg hp]
theorem upL_f0 (steps : List (Int × Int)) : ∀ (xs : List S36), (upL xs steps).map (·.f0) = xs.map (·.f0) := by
  induction steps with
  | nil => exact fun _ => rfl
  | cons s steps ih => exact fun xs => (ih (semiAt xs s.2.toNat s.1.toNat)).trans (semiAt_f0 _ _ _)
theorem downL_f0 (steps : List (Int × Int)) : ∀ (xs : List S36), (downL xs steps).map (·.f0) = xs.map (·.f0) := by
  induction steps with
  | nil => exact fun _ => rfl
  | cons s steps ih => exact fun xs => (ih (semiAt xs s.1.toNat s.2.toNat)).trans (semiAt_f0 _ _ _)
theorem semiAt_other (xs : List S36) (p i j : Nat) (h : p ≠ j) : (semiAt xs p i)[j]? = xs[j]? := by
  unfold semiAt
  rw [List.getElem?_set, if_neg h]
theorem upL_other (j : Nat) (steps : List (Int × Int)) : ∀ (xs : List S36), (∀ s ∈ steps, s.2.toNat ≠ j) → (upL xs steps)[j]? = xs[j]? := by
  induction steps with
  | nil => exact fun _ _ => rfl
  | cons s steps ih =>
    exact fun xs h => (ih (semiAt xs s.2.toNat s.1.toNat) (fun t ht => h t (List.mem_cons_of_mem _ ht))).trans (semiAt_other _ _ _ _ (h s (List.mem_cons_self ..)))
theorem downL_other (j : Nat) (steps : List (Int × Int)) : ∀ (xs : List S36), (∀ s ∈ steps, s.1.toNat ≠ j) → (downL xs steps)[j]? = xs[j]? := by
  induction steps with
  | nil => exact fun _ _ => rfl
  | cons s steps ih =>
    exact fun xs h => (ih (semiAt xs s.1.toNat s.2.toNat) (fun t ht => h t (List.mem_cons_of_mem _ ht))).trans (semiAt_other _ _ _ _ (h s (List.mem_cons_self ..)))

/-- One bag has nothing: none has, once all is reduced. -/
theorem none_all {par L0 L : List Int} (hT : TreeOk par L0 L) {xs : List S36} (hl : xs.length = par.length) (at_ : Nat) (hat : at_ < par.length) (h0 : (xs.getD at_ z36).f1 = []) (j : Nat) (hj : j < par.length) :
    ((downL (upL xs (stepsOf par L0)) (stepsOf par L)).getD j z36).f1 = [] := by
  have h1 : Flags ((List.replicate par.length false).set at_ true) xs := by
    intro k hk
    rw [List.getD_eq_getElem?_getD, List.getElem?_set] at hk
    by_cases hp : at_ = k
    · subst hp; exact h0
    · rw [if_neg hp, List.getElem?_replicate] at hk
      split at hk <;> simp at hk
  have h2 := flags_down (stepsOf par L) (flags_up (stepsOf par L0) h1)
  rw [hT.none at_ hat] at h2
  exact h2 j (by rw [List.getD_eq_getElem?_getD, List.getElem?_replicate, if_pos hj]; rfl)
/-- Up leaves a bag without children as it is. -/
theorem up_leaf {par L0 : List Int} {xs : List S36} (j : Nat) (h : ∀ p ∈ par, p ≠ (j : Int)) (hL : ∀ i ∈ L0, 0 ≤ i ∧ i < (par.length : Int)) : (upL xs (stepsOf par L0))[j]? = xs[j]? := by
  refine upL_other j _ _ fun s hs => ?_
  unfold stepsOf at hs
  obtain ⟨hs, hp⟩ := List.mem_filter.1 hs
  obtain ⟨i, hi, rfl⟩ := List.mem_map.1 hs
  have hp : 0 ≤ par.getD i.toNat 0 := of_decide_eq_true hp
  obtain ⟨a, b⟩ := hL i hi
  have hx : par.getD i.toNat 0 ∈ par := by
    rw [List.getD_eq_getElem?_getD, List.getElem?_eq_getElem (by omega)]
    exact List.getElem_mem _
  have := h _ hx
  intro e
  exact this (by rw [← e, Int.toNat_of_nonneg hp])
/-- Down leaves the root as it is. -/
theorem down_root {par L : List Int} {xs : List S36} (h : GoodPar par) (hL : ∀ i ∈ L, 0 ≤ i ∧ i < (par.length : Int)) : (downL xs (stepsOf par L))[0]? = xs[0]? := by
  refine downL_other 0 _ _ fun s hs => ?_
  unfold stepsOf at hs
  obtain ⟨hs, hp⟩ := List.mem_filter.1 hs
  obtain ⟨i, hi, rfl⟩ := List.mem_map.1 hs
  have hp : 0 ≤ par.getD i.toNat 0 := of_decide_eq_true hp
  obtain ⟨a, b⟩ := hL i hi
  intro e
  have e : i.toNat = 0 := e
  have := h 0 (par.getD i.toNat 0) (by rw [e, List.getD_eq_getElem?_getD, List.getElem?_eq_getElem (by omega)]; rfl)
  simp only [if_true] at this
  omega

end Go.Proofs.YtgejnljpdfjgpaaDoor.Q
namespace Go.Proofs.YtgejnljpdfjgpaaDoor.Q
open Go.RowKit Go.Proofs.YtgejnljpdfjgpaaDoorW.PrintWords Go.Proofs.YtgejnljpdfjgpaaDoorW.PrintLast Go.Proofs.YtgejnljpdfjgpaaDoorW.PrintMore
attribute [local go_sem] max2_int min2_int max_two min_two max_three min_three max_four min_four   -- for this text's walks alone
set_option linter.unusedVariables false
set_option linter.unusedSimpArgs false

/-! ### arboristref01_In: function 35 -/
def arboristref01_In.l0 : Nat → List Int → Int → Int → Option (Bool)
 | 0, _, _, _ => none
 | k + 1, x0, x1, x5 => if x5 < (x0.length : Int) then (if 0 ≤ x5 then (if (rd x0 x5) = x1 then (some true) else (arboristref01_In.l0 k x0 x1 (wrap64 (x5 + 1)))) else (none)) else (some false)
def arboristref01_In.f (k : Nat) (l0 : List Int) (a1 : Int) : Option (Bool) := arboristref01_In.l0 k l0 a1 0
theorem arboristref01_In.mono_l : ∀ k, (∀ y0 y1 y2, LeO (arboristref01_In.l0 k y0 y1 y2) (arboristref01_In.l0 (k + 1) y0 y1 y2))
 | 0 => fun _ _ _ r h => by simp [arboristref01_In.l0] at h
 | k + 1 => by
  have ih0 := arboristref01_In.mono_l k
  ·intro y0 y1 y2
   unfold arboristref01_In.l0
   repeat' first
   | (with_reducible exact ih0 _ _ _)
   | (with_reducible exact LeO.refl _)
   | (with_reducible exact LeO.none _)
   | (with_reducible refine LeO.ite ?_ ?_)
   | (with_reducible refine LeO.bind ?_ (fun _ => ?_))
   | exact ih0 _ _ _
   | exact LeO.none _
   | refine LeO.ite ?_ ?_
   | refine LeO.bind ?_ (fun _ => ?_)
theorem arboristref01_In.mono : ∀ a0 a1 k, LeO (arboristref01_In.f k a0 a1) (arboristref01_In.f (k + 1) a0 a1) := by
 intro a0 a1 k
 have ih0 := arboristref01_In.mono_l k
 unfold arboristref01_In.f
 repeat' first
   | (with_reducible exact ih0 _ _ _)
   | (with_reducible exact LeO.refl _)
   | (with_reducible exact LeO.none _)
   | (with_reducible refine LeO.ite ?_ ?_)
   | (with_reducible refine LeO.bind ?_ (fun _ => ?_))
   | exact ih0 _ _ _
   | exact LeO.none _
   | refine LeO.ite ?_ ?_
   | refine LeO.bind ?_ (fun _ => ?_)
set_option maxHeartbeats 8000000 in
set_option maxRecDepth 100000 in
theorem arboristref01_In.calls (k : Nat) (A0 : Option Addr) (c0 : Nat) (l0 : List Int) (a1 : Int) (r : Bool) (w : World) (hr0 : Kd.C (Kd.int .i64) w A0 l0.length l0) (hc0 : l0.length ≤ c0) (h : arboristref01_In.f k l0 a1 = some r) :
  Calls Tryd.prog 35 #[.slice A0 l0.length c0, .int .i64 a1] w fun e w' => e = .returned (.bool r) ∧ Drawn0 w w' := by
 have HR0 := Aside0.mk hr0
 have HC0 := Aside0.mk hc0
 clear hr0 hc0
 have H : (arboristref01_In.l0 k l0 a1 0) = some r := h
 clear h
 have H' := Aside0.mk H
 clear H
 go_enter Tryd.func35, Tryd.ntmps35
 go_wp2
 go_loopg [5] k (fun kq v5 w' => ∃ (x5_1 : Int), v5 = .int .i64 x5_1 ∧ Aside0 (arboristref01_In.l0 kq l0 a1 x5_1 = some r) ∧ Aside0 (kq ≤ k) ∧ Drawn0 w w')
 case atStart => exact ⟨(0), (by first | rfl | (simp; done) | (simp [*]; done)), H', ⟨Nat.le_refl _⟩, by repeat (first | exact Drawn0.refl _ | apply Drawn0.step)⟩
 case round =>
  clear H'
  try clear p2
  obtain ⟨x5_1, rfl, HA, HK1, ⟨m1, rfl⟩⟩ := hrel
  cases gk with
  | zero => exact absurd HA.out (by simp [arboristref01_In.l0])
  | succ k1 =>
   have H := HA.out
   clear HA
   simp only [arboristref01_In.l0] at H
   by_cases c3 : x5_1 < (l0.length : Int)
   ·rw [if_pos c3] at H
    have c3b0 : decide (x5_1 < (l0.length : Int)) = true := decide_eq_true c3
    clear c3
    by_cases c4 : 0 ≤ x5_1
    ·rw [if_pos c4] at H
     have c4b0 : decide (0 ≤ x5_1) = true := decide_eq_true c4
     clear c4
     by_cases c5 : (rd l0 x5_1) = a1
     ·rw [if_pos c5] at H
      have c5b0 : ((rd l0 x5_1) == a1) = true := beq_iff_eq.mpr c5
      have c5b1 : ((rd l0 x5_1) != a1) = false := bne_eq_false_iff_eq.mpr c5
      clear c5
      obtain rfl := Option.some.inj H
      have p148 : 0 ≤ (x5_1 : Int) := of_decide_eq_true (by first | (with_reducible assumption) | assumption)
      have q148 : x5_1 < (l0.length : Int) := of_decide_eq_true (by first | (with_reducible assumption) | assumption)
      obtain ⟨ad148, e148, hx148_0⟩ := Kd.at_int HR0.out x5_1 p148 q148
      cases e148
      replace p148 := eq_true p148
      replace q148 := eq_true q148
      go_wp2
      go_ret
      exact ⟨by first | rfl | (simp; done) | (simp [*]; done), by repeat (first | exact Drawn0.refl _ | apply Drawn0.step)⟩
     ·rw [if_neg c5] at H
      have c5b0 : ((rd l0 x5_1) == a1) = false := beq_eq_false_iff_ne.mpr c5
      have c5b1 : ((rd l0 x5_1) != a1) = true := bne_iff_ne.mpr c5
      have H' := Aside0.mk H
      clear H
      have p148 : 0 ≤ (x5_1 : Int) := of_decide_eq_true (by first | (with_reducible assumption) | assumption)
      have q148 : x5_1 < (l0.length : Int) := of_decide_eq_true (by first | (with_reducible assumption) | assumption)
      obtain ⟨ad148, e148, hx148_0⟩ := Kd.at_int HR0.out x5_1 p148 q148
      cases e148
      replace p148 := eq_true p148
      replace q148 := eq_true q148
      go_wp2
      go_roundg k1
      case measure => have := HK1.out; omega
      case rel => exact ⟨(wrap64 (x5_1 + 1)), (by first | rfl | (simp; done) | (simp [*]; done)), H', ⟨by have := HK1.out; omega⟩, by repeat (first | exact Drawn0.refl _ | apply Drawn0.step)⟩
    ·rw [if_neg c4] at H
     exact absurd H (by simp)
   ·rw [if_neg c3] at H
    have c3b0 : decide (x5_1 < (l0.length : Int)) = false := decide_eq_false c3
    clear c3
    obtain rfl := Option.some.inj H
    go_wp2
    go_ret
    exact ⟨by first | rfl | (simp; done) | (simp [*]; done), by repeat (first | exact Drawn0.refl _ | apply Drawn0.step)⟩

end Go.Proofs.YtgejnljpdfjgpaaDoor.Q
namespace Go.Proofs.YtgejnljpdfjgpaaDoor.Q
open Go.RowKit Go.Proofs.YtgejnljpdfjgpaaDoorW.PrintWords Go.Proofs.YtgejnljpdfjgpaaDoorW.PrintLast Go.Proofs.YtgejnljpdfjgpaaDoorW.PrintMore
attribute [local go_sem] max2_int min2_int max_two min_two max_three min_three max_four min_four   -- for this text's walks alone
set_option linter.unusedVariables false
set_option linter.unusedSimpArgs false

/-! ### arboristref01_Without: function 22 -/
def arboristref01_Without.l0 : Nat → List Int → List Int → List Int → Int → Option (List Int)
 | 0, _, _, _, _ => none
 | k + 1, x0, x1, x5, x6 => if x6 < (x0.length : Int) then (if 0 ≤ x6 then ((arboristref01_In.f k x1 (rd x0 x6)).bind fun t153 => (if t153 = true then (arboristref01_Without.l0 k x0 x1 x5 (wrap64 (x6 + 1))) else (if x5.length < 17592186044416 then (arboristref01_Without.l0 k x0 x1 (x5 ++ [rd x0 x6]) (wrap64 (x6 + 1))) else (none)))) else (none)) else (some x5)
def arboristref01_Without.f (k : Nat) (l0 : List Int) (l1 : List Int) : Option (List Int) := arboristref01_Without.l0 k l0 l1 (([] : List Int)) 0
theorem arboristref01_Without.mono_l : ∀ k, (∀ y0 y1 y2 y3, LeO (arboristref01_Without.l0 k y0 y1 y2 y3) (arboristref01_Without.l0 (k + 1) y0 y1 y2 y3))
 | 0 => fun _ _ _ _ r h => by simp [arboristref01_Without.l0] at h
 | k + 1 => by
  have ih0 := arboristref01_Without.mono_l k
  ·intro y0 y1 y2 y3
   unfold arboristref01_Without.l0
   repeat' first
   | (with_reducible exact ih0 _ _ _ _)
   | (with_reducible exact arboristref01_In.mono _ _ _)
   | (with_reducible exact LeO.refl _)
   | (with_reducible exact LeO.none _)
   | (with_reducible refine LeO.ite ?_ ?_)
   | (with_reducible refine LeO.bind ?_ (fun _ => ?_))
   | exact ih0 _ _ _ _
   | exact arboristref01_In.mono _ _ _
   | exact LeO.none _
   | refine LeO.ite ?_ ?_
   | refine LeO.bind ?_ (fun _ => ?_)
theorem arboristref01_Without.mono : ∀ a0 a1 k, LeO (arboristref01_Without.f k a0 a1) (arboristref01_Without.f (k + 1) a0 a1) := by
 intro a0 a1 k
 have ih0 := arboristref01_Without.mono_l k
 unfold arboristref01_Without.f
 repeat' first
   | (with_reducible exact ih0 _ _ _ _)
   | (with_reducible exact arboristref01_In.mono _ _ _)
   | (with_reducible exact LeO.refl _)
   | (with_reducible exact LeO.none _)
   | (with_reducible refine LeO.ite ?_ ?_)
   | (with_reducible refine LeO.bind ?_ (fun _ => ?_))
   | exact ih0 _ _ _ _
   | exact arboristref01_In.mono _ _ _
   | exact LeO.none _
   | refine LeO.ite ?_ ?_
   | refine LeO.bind ?_ (fun _ => ?_)
set_option maxHeartbeats 8000000 in
set_option maxRecDepth 100000 in
theorem arboristref01_Without.calls (k : Nat) (A0 : Option Addr) (c0 : Nat) (l0 : List Int) (A1 : Option Addr) (c1 : Nat) (l1 : List Int) (r : List Int) (w : World) (hr0 : Kd.C (Kd.int .i64) w A0 l0.length l0) (hc0 : l0.length ≤ c0) (hr1 : Kd.C (Kd.int .i64) w A1 l1.length l1) (hc1 : l1.length ≤ c1) (h : arboristref01_Without.f k l0 l1 = some r) :
  Calls Tryd.prog 22 #[.slice A0 l0.length c0, .slice A1 l1.length c1] w fun e w' => ∃ v0_ : Value, e = .returned (v0_) ∧ Kd.R (Kd.int .i64) 3 w' w.heap.size (fun _ => True) v0_ r ∧ Below w.heap.size w w' := by
 have HR0 := Aside0.mk hr0
 have HC0 := Aside0.mk hc0
 clear hr0 hc0
 have HR1 := Aside0.mk hr1
 have HC1 := Aside0.mk hc1
 clear hr1 hc1
 have HB := Aside0.mk (Below.refl w.heap.size w)
 have H : (arboristref01_Without.l0 k l0 l1 (([] : List Int)) 0) = some r := h
 clear h
 obtain ⟨y149, hy149⟩ : ∃ y_ : List Int, y_ = (([] : List Int)) := ⟨_, rfl⟩
 replace H : (arboristref01_Without.l0 k l0 l1 y149 0) = some r := by first | (rw [hy149]; with_reducible exact H) | (have H2_ := (Option.bind_some _ _).symm.trans H; rw [hy149]; with_reducible exact H2_) | (have H2_ := (Option.bind_some _ _).symm.trans H; with_reducible exact H2_) | with_reducible exact H | (rw [hy149]; exact H) | exact H
 have Ny149 := Aside0.mk hy149
 clear hy149
 have H' := Aside0.mk H
 clear H
 go_enter Tryd.func22, Tryd.ntmps22
 go_wp2_with (first | ((with_reducible refine gate_dst (N := 8) rfl ?_); refine Kd.R_lit (Kd.int .i64) _ 3 ?hg (N := 8) ?hd (xs := ([] : List Int)) (inner := []) (ok := fun _ => True) (okp := fun _ => True) ?hr ?hp (fun _ hk => hk) trivial (Below.refl _ _) (Nat.le_refl _) (by simp) ?_; (case hd => rfl); (case hg => rfl); (case hr => first | (go_simp; done) | (go_simp; rfl)); (case hp => exact (Reps.none _ _)); intro v150 w3 ho4 hb hg_ hnew_; clear hg_ hnew_; (first | rw [← Ny149.out] at ho4 | (simp only [Int.reduceToNat] at ho4; rw [← Ny149.out] at ho4)); have n0_ := Aside0.mk (Kd.R_lower ho4 (below_size (by repeat (first | (with_reducible first | exact HB.out | apply below_alloc | apply pw_below_drewN | apply below_drew1) | exact HB.out)))); have n1_ := Aside0.mk (below_step (by repeat (first | (with_reducible first | exact HB.out | apply below_alloc | apply pw_below_drewN | apply below_drew1) | exact HB.out)) hb); clear HB; have HO151 := n0_; have HB := n1_; clear n0_ n1_; clear hb ho4))
 go_loopg [5, 6] k (fun kq v5 v6 w' => ∃ (x5_1 : List Int) (x6_1 : Int), v6 = .int .i64 x6_1 ∧ Aside0 (arboristref01_Without.l0 kq l0 l1 x5_1 x6_1 = some r) ∧ Aside0 (kq ≤ k) ∧ Aside0 (Kd.R (Kd.int .i64) 3 w' w.heap.size (fun _ => True) v5 x5_1) ∧ Aside0 (Below w.heap.size w w'))
 case atStart => exact ⟨(y149), (0), (by first | rfl | (simp; done) | (simp [*]; done)), H', ⟨Nat.le_refl _⟩, ⟨by (with_reducible repeat (first | apply Kd.R_alloc | apply Kd.R_drewN | apply Kd.R_drew)); exact HO151.out⟩, ⟨by repeat (first | (with_reducible first | exact HB.out | apply below_alloc | apply pw_below_drewN | apply below_drew1) | exact HB.out)⟩⟩
 case round =>
  clear H'
  try clear c1
  try clear c2
  try clear p2
  obtain ⟨x5_1, x6_1, rfl, HA, HK1, HO_5, HB⟩ := hrel
  cases gk with
  | zero => exact absurd HA.out (by simp [arboristref01_Without.l0])
  | succ k1 =>
   have H := HA.out
   clear HA
   simp only [arboristref01_Without.l0] at H
   by_cases c5 : x6_1 < (l0.length : Int)
   ·rw [if_pos c5] at H
    have c5b0 : decide (x6_1 < (l0.length : Int)) = true := decide_eq_true c5
    clear c5
    by_cases c6 : 0 ≤ x6_1
    ·rw [if_pos c6] at H
     have c6b0 : decide (0 ≤ x6_1) = true := decide_eq_true c6
     clear c6
     replace H := Option.bind_eq_some_iff.mp H
     obtain ⟨t153, A70, H⟩ := H
     replace H : (if t153 = true then (arboristref01_Without.l0 k1 l0 l1 x5_1 (wrap64 (x6_1 + 1))) else (if x5_1.length < 17592186044416 then (arboristref01_Without.l0 k1 l0 l1 (x5_1 ++ [rd l0 x6_1]) (wrap64 (x6_1 + 1))) else (none))) = some r := H
     have A7 := Aside0.mk A70
     clear A70
     by_cases c8 : t153 = true
     ·subst c8
      have H1 : (arboristref01_Without.l0 k1 l0 l1 x5_1 (wrap64 (x6_1 + 1))) = some r := by rw [if_pos rfl] at H; exact H
      clear H
      have H := H1
      clear H1
      have H' := Aside0.mk H
      clear H
      have p152 : 0 ≤ (x6_1 : Int) := of_decide_eq_true (by first | (with_reducible assumption) | assumption)
      have q152 : x6_1 < (l0.length : Int) := of_decide_eq_true (by first | (with_reducible assumption) | assumption)
      obtain ⟨ad152, e152, hx152_0⟩ := Kd.at_int HR0.out x6_1 p152 q152
      cases e152
      replace hx152_0 := (HB.out.cell (World.block_lt_of_cell? w _ hx152_0)).trans hx152_0
      replace p152 := eq_true p152
      replace q152 := eq_true q152
      go_wp2_with (first | ((with_reducible refine gate_callee (f := 35) rfl ?_); refine goesL_ (some 20) rfl rfl Tryd.func35 (by kernel_rfl) rfl #[.slice A1 l1.length c1, .int .i64 (rd l0 x6_1)] rfl (by (try simp only [List.map_toArray, List.map_cons, List.map_nil]); first | done | rfl | (simp only [List.length_drop, List.length_take]; rfl)) ?_; (with_reducible refine (arboristref01_In.calls k1 _ _ l1 (rd l0 x6_1) true _ ?side1 ?side2 A7.out).mono ?_); (case side1 => repeat (first | exact (Kd.C_below HR1.out HB.out) | (with_reducible refine Kd.C_alloc ?_ _) | (with_reducible refine Kd.C_drewN ?_ _) | (with_reducible refine Kd.C_drew ?_))); (case side2 => exact HC1.out); rintro e w' ⟨rfl, ⟨nd, rfl⟩⟩; refine ⟨_, rfl, ?_⟩))
      go_roundg k1
      case measure => have := HK1.out; omega
      case rel => exact ⟨(x5_1), (wrap64 (x6_1 + 1)), (by first | rfl | (simp; done) | (simp [*]; done)), H', ⟨by have := HK1.out; omega⟩, ⟨by (with_reducible repeat (first | apply Kd.R_alloc | apply Kd.R_drewN | apply Kd.R_drew)); exact HO_5.out⟩, ⟨by repeat (first | (with_reducible first | exact HB.out | apply below_alloc | apply pw_below_drewN | apply below_drew1) | exact HB.out)⟩⟩
     ·replace c8 := Bool.eq_false_iff.mpr c8
      subst c8
      have H1 : (if x5_1.length < 17592186044416 then (arboristref01_Without.l0 k1 l0 l1 (x5_1 ++ [rd l0 x6_1]) (wrap64 (x6_1 + 1))) else (none)) = some r := by rw [if_neg (show ¬ (false = true) by decide)] at H; exact H
      clear H
      have H := H1
      clear H1
      by_cases c9 : x5_1.length < 17592186044416
      ·rw [if_pos c9] at H
       have LMc9 := Aside0.mk c9
       clear c9
       obtain ⟨y155, hy155⟩ : ∃ y_ : List Int, y_ = (x5_1 ++ [rd l0 x6_1]) := ⟨_, rfl⟩
       replace H : (arboristref01_Without.l0 k1 l0 l1 y155 (wrap64 (x6_1 + 1))) = some r := by first | (rw [hy155]; with_reducible exact H) | (have H2_ := (Option.bind_some _ _).symm.trans H; rw [hy155]; with_reducible exact H2_) | (have H2_ := (Option.bind_some _ _).symm.trans H; with_reducible exact H2_) | with_reducible exact H | (rw [hy155]; exact H) | exact H
       have Ny155 := Aside0.mk hy155
       clear hy155
       have H' := Aside0.mk H
       clear H
       have p152 : 0 ≤ (x6_1 : Int) := of_decide_eq_true (by first | (with_reducible assumption) | assumption)
       have q152 : x6_1 < (l0.length : Int) := of_decide_eq_true (by first | (with_reducible assumption) | assumption)
       obtain ⟨ad152, e152, hx152_0⟩ := Kd.at_int HR0.out x6_1 p152 q152
       cases e152
       replace hx152_0 := (HB.out.cell (World.block_lt_of_cell? w _ hx152_0)).trans hx152_0
       replace p152 := eq_true p152
       replace q152 := eq_true q152
       go_wp2_with (first | ((with_reducible refine gate_callee (f := 35) rfl ?_); refine goesL_ (some 20) rfl rfl Tryd.func35 (by kernel_rfl) rfl #[.slice A1 l1.length c1, .int .i64 (rd l0 x6_1)] rfl (by (try simp only [List.map_toArray, List.map_cons, List.map_nil]); first | done | rfl | (simp only [List.length_drop, List.length_take]; rfl)) ?_; (with_reducible refine (arboristref01_In.calls k1 _ _ l1 (rd l0 x6_1) false _ ?side1 ?side2 A7.out).mono ?_); (case side1 => repeat (first | exact (Kd.C_below HR1.out HB.out) | (with_reducible refine Kd.C_alloc ?_ _) | (with_reducible refine Kd.C_drewN ?_ _) | (with_reducible refine Kd.C_drew ?_))); (case side2 => exact HC1.out); rintro e w' ⟨rfl, ⟨nd, rfl⟩⟩; refine ⟨_, rfl, ?_⟩; have p154 : 0 ≤ (x6_1 : Int) := of_decide_eq_true (by first | (with_reducible assumption) | assumption); have q154 : x6_1 < (l0.length : Int) := of_decide_eq_true (by first | (with_reducible assumption) | assumption); obtain ⟨ad154, e154, hx154_0⟩ := Kd.at_int HR0.out x6_1 p154 q154; obtain rfl : ad152 = ad154 := (by injection e154); replace hx154_0 := (HB.out.cell (World.block_lt_of_cell? w _ hx154_0)).trans hx154_0; replace p154 := eq_true p154; replace q154 := eq_true q154) | ((with_reducible refine gate_builtin (b := .append) (xs := #[.tmp 23, .tmp 28]) rfl ?_); at_builtin; refine Kd.R_append (Kd.int .i64) (w0 := w) w.heap.size rfl (.tmp 23) (.tmp 28) 25 3 (.int .i64 0) 8 rfl Tryd.underlying25 info3 rfl (by decide) (by omega) u5 x5_1 (rd l0 x6_1) [.int .i64 (rd l0 x6_1)] (fun _ => True) (fun _ => False) rfl rfl ?aP (fun _ hk => hk.elim) ?aF ?aO ?aB ?aS ?aL ?_; (case aP => exact rfl); (case aB => exact (by repeat (first | (with_reducible first | exact HB.out | apply below_alloc | apply pw_below_drewN | apply below_drew1) | exact HB.out))); (case aF => exact (fun _ _ => trivial)); (case aO => exact (by (with_reducible repeat (first | apply Kd.R_alloc | apply Kd.R_drewN | apply Kd.R_drew)); exact HO_5.out)); (case aS => exact (below_size (by repeat (first | (with_reducible first | exact HB.out | apply below_alloc | apply pw_below_drewN | apply below_drew1) | exact HB.out)))); (case aL => have := LMc9.out; omega); intro v156 w10 ho hb hg hat; rw [← Ny155.out] at ho; have n0_ := Aside0.mk (hb); have n1_ := Aside0.mk (ho); clear HB; clear HO_5; have HB := n0_; have HO157 := n1_; clear n0_ n1_; clear ho hb hg hat))
       go_roundg k1
       case measure => have := HK1.out; omega
       case rel => exact ⟨(y155), (wrap64 (x6_1 + 1)), (by first | rfl | (simp; done) | (simp [*]; done)), H', ⟨by have := HK1.out; omega⟩, ⟨by (with_reducible repeat (first | apply Kd.R_alloc | apply Kd.R_drewN | apply Kd.R_drew)); exact HO157.out⟩, ⟨by repeat (first | (with_reducible first | exact HB.out | apply below_alloc | apply pw_below_drewN | apply below_drew1) | exact HB.out)⟩⟩
      ·rw [if_neg c9] at H
       exact absurd H (by simp)
    ·rw [if_neg c6] at H
     exact absurd H (by simp)
   ·rw [if_neg c5] at H
    have c5b0 : decide (x6_1 < (l0.length : Int)) = false := decide_eq_false c5
    clear c5
    obtain rfl := Option.some.inj H
    go_wp2
    go_ret
    exact ⟨_, by first | rfl | (simp [errW_none, errW_some] <;> rfl) | (simp [*, errW_none, errW_some] <;> rfl), by (with_reducible repeat (first | apply Kd.R_alloc | apply Kd.R_drewN | apply Kd.R_drew)); exact HO_5.out, by repeat (first | (with_reducible first | exact HB.out | apply below_alloc | apply pw_below_drewN | apply below_drew1) | exact HB.out)⟩

end Go.Proofs.YtgejnljpdfjgpaaDoor.Q
