
/- The document's answer for the disk: a block set, a block read. -/
import Derived.Test.YtnbjoebdbbhbkaaDPa
namespace Go.Proofs.Ytnbjoebdbbhbkaa
open Go.RowKit
set_option linter.unusedVariables false
abbrev tStr : Nat := 9
abbrev tSS : Nat := 42
abbrev tRL : Nat := 65
def sval (l : List UInt8) : Value := .string ⟨l.toArray⟩
theorem elStr : ElT Try.prog tSS tStr 1 16 (Value.string ⟨#[]⟩).cells := elT_of (z := .string ⟨#[]⟩) Try.underlying42 (by kernel_rfl) rfl (by decide)
theorem one_sval (ls : List (List UInt8)) : ∀ u ∈ ls.map sval, u.oneCell' = true := by
  intro u hu
  obtain ⟨l, _, rfl⟩ := List.mem_map.1 hu
  rfl
/-- A cell of an own row is turned. -/
theorem own_setCell {w : World} {base e size n g cap i : Nat} {xs : List Value} (u : Value) (h : w.ownsRow base e size (.slice (some ⟨g, 0, none⟩) n cap) n xs) (hi : i < n * size) :
    (w.setCell ⟨g, i, none⟩ u).ownsRow base e size (.slice (some ⟨g, 0, none⟩) n cap) n (xs.set i u) ∧ (∃ cs, Put w (w.setCell ⟨g, i, none⟩ u) g e cs) ∧ base ≤ g ∧ w.frozen? ⟨g, i, none⟩ = false ∧ w.cell? ⟨g, i, none⟩ = xs[i]? := by
  rcases h.2 with ⟨hv, _⟩ | ⟨g', cap', cur, hv, hb, hh, hn, hm, hs, ht⟩
  · cases hv
  · injection hv with h1 _ h3
    injection h1 with h1
    injection h1 with h1
    subst h1 h3
    have hbk : Blk w g e cur := hh
    have hp := setCell_put hbk (i := i) u
    have hx : (xs.set i u).length = n * size := by rw [List.length_set]; exact h.1
    refine ⟨⟨hx, .inr ⟨g, cap, _, rfl, hb, hp.blk, hn, hm, by rw [Array.size_setIfInBounds]; exact hs, ?_⟩⟩, ⟨_, hp⟩, hb, hbk.frozen i, ?_⟩
    · rw [Array.toList_setIfInBounds, List.take_set, ht]
    · rw [hbk.cell, ← ht, List.getElem?_take, if_pos hi]
      simp
/-- What a slice of strings that the document's disk holds reads. -/
def SlS (w : World) (A : Option Addr) (c : Nat) (ls : List (List UInt8)) : Prop := ls.length ≤ c ∧ c ≤ maxLen ∧ Rd w w.heap.size A (ls.map sval)
theorem SlS.below {w w' : World} {A : Option Addr} {c : Nat} {ls : List (List UInt8)} (h : SlS w A c ls) (hb : Below w.heap.size w w') : SlS w' A c ls := ⟨h.1, h.2.1, (h.2.2.below hb).more hb.size⟩
/-- Its block, if there is one, is a row of this type. -/
def TyA (w : World) (t : TypeId) (A : Option Addr) : Prop := ∀ a, A = some a → ∃ cs fr, w.heap[a.block]? = some (.cells cs t fr)
theorem TyA.nil (w : World) (t : TypeId) : TyA w t none := fun a h => by cases h
theorem TyA.below {w w' : World} {t : TypeId} {A : Option Addr} (h : TyA w t A) (hb : Below w.heap.size w w') : TyA w' t A := by
  intro a ha
  obtain ⟨cs, fr, h1⟩ := h a ha
  exact ⟨cs, fr, (hb.block _ (Array.getElem?_eq_some_iff.1 h1).1).trans h1⟩
theorem TyA.out {w : World} {t : TypeId} {A : Option Addr} (h : TyA w t A) (h1 : t ≠ tDisk) (h2 : t ≠ tLoose) : Out w A := by
  intro a ha
  obtain ⟨cs, fr, hh⟩ := h a ha
  exact ⟨cs, t, fr, hh, h1, h2⟩
theorem TyA.dfr {w w' : World} {B : Nat} {t : TypeId} {A : Option Addr} (h : TyA w t A) (h1 : t ≠ tDisk) (h2 : t ≠ tLoose) (hd : DFr B w w') : TyA w' t A := by
  intro a ha
  obtain ⟨cs, fr, hh⟩ := h a ha
  exact ⟨cs, fr, hd.keep _ _ _ _ hh h1 h2⟩
theorem TyA.put {w w1 : World} {t : TypeId} {g : Nat} {A : Option Addr} {cs cs' : Array Value} (h : TyA w t A) (hb : Blk w g tRD cs) (hp : Put w w1 g tRD cs') (hne : t ≠ tRD) : TyA w1 t A := by
  intro a ha
  obtain ⟨cs0, fr, h1⟩ := h a ha
  refine ⟨cs0, fr, (hp.oth _ ?_).trans h1⟩
  intro e
  unfold Blk at hb
  rw [e, hb] at h1
  injection h1 with h1
  injection h1 with _ h1
  exact hne h1.symm
theorem Rd.ty_put {w w1 : World} {t : TypeId} {B g : Nat} {A : Option Addr} {xs : List Value} {cs cs' : Array Value} (h : Rd w B A xs) (ht : TyA w t A) (hb : Blk w g tRD cs) (hp : Put w w1 g tRD cs') (hne : t ≠ tRD) : Rd w1 B A xs := by
  rcases h with h | ⟨b, off, rfl, h2, h3⟩
  · exact .inl h
  · refine .inr ⟨b, off, rfl, h2, fun i v hv => ?_⟩
    rw [← h3 i v hv]
    obtain ⟨cs0, fr, h1⟩ := ht _ rfl
    have hbg : b ≠ g := by
      intro e
      unfold Blk at hb
      have h1 : w.heap[b]? = some (.cells cs0 t fr) := h1
      rw [e, hb] at h1
      injection h1 with h1
      injection h1 with _ h1
      exact hne h1.symm
    have := hp.oth b hbg
    exact World.cell?_of_block (w := w) (a := ⟨b, off + i, none⟩) this
/-- A row of strings of one's own. -/
def OwT (w : World) (B : Nat) (A : Option Addr) (c : Nat) (ls : List (List UInt8)) : Prop := ls.length ≤ c ∧ c ≤ maxLen ∧ w.ownsRow B tStr 1 (.slice A ls.length c) ls.length (ls.map sval)
/-- It lies below B, or is a row of one's own above. -/
def SlT (w : World) (B : Nat) (A : Option Addr) (c : Nat) (ls : List (List UInt8)) : Prop := ls.length ≤ c ∧ c ≤ maxLen ∧ ((Rd w B A (ls.map sval) ∧ TyA w tStr A) ∨ w.ownsRow B tStr 1 (.slice A ls.length c) ls.length (ls.map sval))
theorem SlT.sls {w : World} {B : Nat} {A : Option Addr} {c : Nat} {ls : List (List UInt8)} (h : SlT w B A c ls) (hB : B ≤ w.heap.size) : SlS w A c ls := by
  refine ⟨h.1, h.2.1, ?_⟩
  rcases h.2.2 with h | h
  · exact h.1.more hB
  · exact own_rd h
theorem own_ty {w : World} {B e size n c : Nat} {A : Option Addr} {xs : List Value} (h : w.ownsRow B e size (.slice A n c) n xs) : TyA w e A := by
  rcases h.2 with ⟨hv, _⟩ | ⟨g, cap, cur, hv, _, hh, _⟩
  · cases hv
    exact TyA.nil w e
  · injection hv with hv _ _
    subst hv
    intro a ha
    injection ha with ha
    subst ha
    exact ⟨_, _, hh⟩
theorem SlT.ty {w : World} {B : Nat} {A : Option Addr} {c : Nat} {ls : List (List UInt8)} (h : SlT w B A c ls) : TyA w tStr A := by
  rcases h.2.2 with h | h
  · exact h.2
  · exact own_ty h
set_option maxRecDepth 100000 in
set_option maxHeartbeats 1000000 in
theorem rset_any (w : World) {A : Option Addr} {c : Nat} {ls : List (List UInt8)} (hs : SlS w A c ls) (hn : ls.length ≤ 100) (i : Nat) (hi : i < ls.length) (b : List UInt8) :
    Calls Try.prog 30 #[.slice A ls.length c, .int .i64 (i : Int), .string ⟨b.toArray⟩] w fun e w' => ∃ A' c', e = .returned (.slice A' ls.length c') ∧ OwT w' w.heap.size A' c' (ls.set i b) ∧ Below w.heap.size w w' := by
  obtain ⟨h1, h2, h3⟩ := hs
  have hown := World.ownsRow_nil w w.heap.size tStr 1
  have hll : (ls.map sval).length = ls.length * 1 := by rw [List.length_map, Nat.mul_one]
  have h63 : 0 + ls.length ≤ maxLen := by unfold maxLen; omega
  have hby : (0 + ls.length) * 16 ≤ 140737488355328 := by omega
  have hone := one_sval ls
  have hii : (i : Int) < (ls.length : Int) := by omega
  go_enter Try.func30, Try.ntmps30
  go_wp2_with (at_builtin; refine wpList_app rfl _ _ _ rfl (.slice none 0 0) rfl _ ls.length c rfl elStr hown h3 hll hone h63 hby (Nat.le_refl _) ?_; intro v5 w5 hown5 hg5 hat5; obtain ⟨g, cap, rfl, hgb, hglt, hnc, hcm⟩ := own_block hown5 (by omega); rw [Nat.zero_add, List.nil_append] at hown5; obtain ⟨hset, ⟨cs5, hp5⟩, hgb', hfz, hce⟩ := own_setCell (i := i) (.string ⟨b.toArray⟩) hown5 (by omega); have hgx : (ls.map sval)[i]? = some (sval ls[i]) := by rw [List.getElem?_map, List.getElem?_eq_getElem hi]; rfl)
  refine bodyPost_ret (results_tmp rfl _ _ _) rfl ?_
  have hb5 : Below w.heap.size w w5 := own_below (Below.refl _ _) hown hg5
  obtain ⟨A', c', e1, e2, e3, e4⟩ := own_form hset
  injection e1 with e1 _ e1'
  subst e1 e1'
  have hm : (ls.map sval).set i (.string ⟨b.toArray⟩) = (ls.set i b).map sval := by rw [List.map_set]; rfl
  rw [hm] at e4
  exact ⟨_, _, rfl, ⟨by rw [List.length_set]; exact e2, e3, by rw [List.length_set, ← hm]; exact hset⟩, bx_put hb5 hp5 hgb'⟩
/-- The document's list of what is loose. -/
def lst (ls : List (Int × List UInt8)) : List Value := ls.flatMap fun x => [.int .i64 x.1, sval x.2]
theorem lst_len (ls : List (Int × List UInt8)) : (lst ls).length = ls.length * 2 := by
  induction ls with
  | nil => rfl
  | cons x ls ih => unfold lst at *; rw [List.flatMap_cons, List.length_append, ih]; show 2 + ls.length * 2 = (ls.length + 1) * 2; omega
theorem lst_get {ls : List (Int × List UInt8)} {k : Nat} (h : k < ls.length) : (lst ls)[k * 2]? = some (.int .i64 ls[k].1) ∧ (lst ls)[k * 2 + 1]? = some (sval ls[k].2) := by
  induction ls generalizing k with
  | nil => exact absurd h (Nat.not_lt_zero _)
  | cons x ls ih =>
    cases k with
    | zero => exact ⟨rfl, rfl⟩
    | succ k =>
      have hk : k < ls.length := by simpa using h
      have h2 := ih hk
      unfold lst at *
      rw [List.flatMap_cons]
      constructor
      · rw [List.getElem?_append_right (by show 2 ≤ _; omega), show (k + 1) * 2 - [Value.int .i64 x.1, sval x.2].length = k * 2 by show (k + 1) * 2 - 2 = _; omega]
        exact h2.1
      · rw [List.getElem?_append_right (by show 2 ≤ _; omega), show (k + 1) * 2 + 1 - [Value.int .i64 x.1, sval x.2].length = k * 2 + 1 by show (k + 1) * 2 + 1 - 2 = _; omega]
        exact h2.2
def rGood (D : DS) : List (List UInt8) := (List.range D.n).map fun k : Nat => goodAt D (k : Int)
theorem rGood_len (D : DS) : (rGood D).length = D.n := by unfold rGood; rw [List.length_map, List.length_range]
theorem rGood_get {D : DS} {k : Nat} (h : k < D.n) : (rGood D)[k]? = some (goodAt D (k : Int)) := by
  unfold rGood
  rw [List.getElem?_map, List.getElem?_range h]
  rfl
/-- What the document's disk reads as. -/
structure RefAt (w : World) (D : DS) (A : Option Addr) (c : Nat) (A2 : Option Addr) (c2 : Nat) : Prop where
  g : Rd w w.heap.size A ((rGood D).map sval)
  gc : D.n ≤ c
  gm : c ≤ maxLen
  l : Rd w w.heap.size A2 (lst D.loose)
  lc : D.loose.length ≤ c2
  lm : c2 ≤ maxLen
  go : TyA w tStr A
  lo : TyA w tRL A2
theorem RefAt.below {w w' : World} {D : DS} {A A2 : Option Addr} {c c2 : Nat} (h : RefAt w D A c A2 c2) (hb : Below w.heap.size w w') : RefAt w' D A c A2 c2 :=
  ⟨(h.g.below hb).more hb.size, h.gc, h.gm, (h.l.below hb).more hb.size, h.lc, h.lm, h.go.below hb, h.lo.below hb⟩
def refV (D : DS) (A : Option Addr) (c : Nat) (A2 : Option Addr) (c2 : Nat) : Value := .agg (rcs A D.n c A2 D.loose.length c2 D.fails D.dead).toArray
set_option maxRecDepth 100000 in
set_option maxHeartbeats 2000000 in
theorem rRead_any (w : World) {D : DS} {A A2 : Option Addr} {c c2 : Nat} (h : RefAt w D A c A2 c2) (hn : D.n ≤ 100) (hl : D.loose.length ≤ 1000) (i : Int) :
    Calls Try.prog 31 #[.agg (rcs A D.n c A2 D.loose.length c2 D.fails D.dead).toArray, .int .i64 i] w fun e w' => e = .returned (.tuple #[.string ⟨(readV D i).toArray⟩, .int .i64 (readE D i)]) ∧ Below w.heap.size w w' := by
  have hbx := Blk.new w tRD (rcs A D.n c A2 D.loose.length c2 D.fails D.dead).toArray
  have hb0 : Below w.heap.size w (w.alloc (.cells (rcs A D.n c A2 D.loose.length c2 D.fails D.dead).toArray tRD)) := bx_alloc (Below.refl _ _) _
  have c0' := cellD0 hbx
  have c1' := cellD1 hbx
  have c3' := cellD3 hbx
  have h' := h.below hb0
  have hgm : c ≤ 9223372036854775807 := h.gm
  have hlm : c2 ≤ 9223372036854775807 := h.lm
  have hgc := h.gc
  have hlc := h.lc
  go_enter Try.func31, Try.ntmps31
  rw [hold 3, hold 8]
  cases hd : D.dead with
  | true =>
    rw [hd] at c3' c0' c1' hb0 hbx
    have hE : readE D i = 30 := by unfold readE; rw [hd]; rfl
    have hV : readV D i = [] := by unfold readV; rw [hE]; rfl
    rw [hE, hV]
    go_wp2_with fail
    exact bodyPost_ret (results_tmp2 rfl _ _ _) rfl ⟨rfl, hb0⟩
  | false =>
    rw [hd] at c3' c0' c1' hb0 hbx h'
    have lgx := hbx.lt
    by_cases ht : thereB D i = true
    · have hE : readE D i = 0 := by unfold readE; rw [hd, ht]; rfl
      have hV : readV D i = readAt D i := by unfold readV; rw [hE]; rfl
      rw [hE, hV]
      clear hE hV
      have hti : 0 ≤ i ∧ i < (D.n : Int) := by
        unfold thereB at ht
        simpa using ht
      obtain ⟨q, rfl⟩ := Int.eq_ofNat_of_zero_le hti.1
      have hqn : q < D.n := by omega
      have hqi : (q : Int) < (D.n : Int) := by omega
      go_wp2_with fail
      refine wp_hold (wp_region_lit ?_)
      refine wp_flowSE [0, 1, 3, 7, 15, 31, 63, 127, 255] 9 [false, false, false, false, false, false, false, false, false, true, true, true, true, true, true, true, true, true] (by kernel_rfl) (by kernel_rfl) (by kernel_rfl) [FP.eq (.int .i64 (q : Int)), FP.eq (.bool false), FP.eq (.bool false), FP.eq (.int .i64 (q : Int)), FP.eq (.pointer (some ⟨w.heap.size, 0, none⟩)), FP.eq (.slice A D.n c), FP.eq (.int .i64 (D.n : Int)), FP.eq (.bool false), FP.eq (.bool false)] ?_ ?_
      · refine allFrom_cons ?_ ?_
        · intro a_ w_ hk_
          have h1 : a_.eval (.tmp 1) = .int .i64 (q : Int) := hk_.old 1 (by kernel_rfl)
          have hx_ := hk_.ext
          clear hk_
          refine flow_plain rfl ?_
          exact gives_move rfl ⟨Below.refl _ _, h1⟩
        refine allFrom_cons ?_ ?_
        · intro a_ w_ hk_
          have h9 : a_.eval (.tmp 9) = (.int .i64 (q : Int)) := hk_.got 0 9 _ (by kernel_rfl) rfl rfl
          have hx_ := hk_.ext
          clear hk_
          refine flow_plain rfl ?_
          unfold gives
          have hc_ : ∀ v, a_.eval (.const v) = v := fun _ => rfl
          have hn_ : ∀ f, a_.eval (.func f) = .func (.func f) #[] #[] := fun _ => rfl
          generalize a_.eval = ρ_ at *
          go_simp
          first | exact ⟨Below.refl _ _, rfl⟩ | exact ⟨Below.refl _ _, congrArg Value.bool (decide_eq_false (by omega))⟩
        refine allFrom_cons ?_ ?_
        · intro a_ w_ hk_
          have h10 : a_.eval (.tmp 10) = (.bool false) := hk_.got 1 10 _ (by kernel_rfl) rfl rfl
          have hx_ := hk_.ext
          clear hk_
          refine flow_plain rfl ?_
          exact gives_move rfl ⟨Below.refl _ _, h10⟩
        refine allFrom_cons ?_ ?_
        · intro a_ w_ hk_
          have h1 : a_.eval (.tmp 1) = .int .i64 (q : Int) := hk_.old 1 (by kernel_rfl)
          have hg_ : a_.eval (.tmp 11) = .bool false := hk_.got 2 11 _ (by kernel_rfl) rfl rfl
          have hy_ := hk_.want 2 _ 11 false rfl rfl hg_
          have hx_ := hk_.ext
          clear hk_
          refine flow_want rfl hy_ ?_
          exact gives_move rfl ⟨Below.refl _ _, h1⟩
        refine allFrom_cons ?_ ?_
        · intro a_ w_ hk_
          have h2 : a_.eval (.tmp 2) = .pointer (some ⟨w.heap.size, 0, none⟩) := hk_.old 2 (by kernel_rfl)
          have hg_ : a_.eval (.tmp 11) = .bool false := hk_.got 2 11 _ (by kernel_rfl) rfl rfl
          have hy_ := hk_.want 2 _ 11 false rfl rfl hg_
          have hx_ := hk_.ext
          clear hk_
          refine flow_want rfl hy_ ?_
          unfold gives
          have hc_ : ∀ v, a_.eval (.const v) = v := fun _ => rfl
          have hn_ : ∀ f, a_.eval (.func f) = .func (.func f) #[] #[] := fun _ => rfl
          clear hy_ hg_
          generalize a_.eval = ρ_ at *
          go_simp
          exact ⟨Below.refl _ _, rfl⟩
        refine allFrom_cons ?_ ?_
        · intro a_ w_ hk_
          have h13 : a_.eval (.tmp 13) = (.pointer (some ⟨w.heap.size, 0, none⟩)) := hk_.got 4 13 _ (by kernel_rfl) rfl rfl
          have hg_ : a_.eval (.tmp 11) = .bool false := hk_.got 2 11 _ (by kernel_rfl) rfl rfl
          have hy_ := hk_.want 2 _ 11 false rfl rfl hg_
          have hx_ := hk_.ext
          clear hk_
          refine flow_want rfl hy_ ?_
          unfold gives
          have hc_ : ∀ v, a_.eval (.const v) = v := fun _ => rfl
          have hn_ : ∀ f, a_.eval (.func f) = .func (.func f) #[] #[] := fun _ => rfl
          clear hy_ hg_
          have hcell := (hx_.cell (p := ⟨w.heap.size, 0, none⟩) lgx).trans c0'
          generalize a_.eval = ρ_ at *
          go_simp
          exact ⟨Below.refl _ _, rfl⟩
        refine allFrom_cons ?_ ?_
        · intro a_ w_ hk_
          have h14 : a_.eval (.tmp 14) = (.slice A D.n c) := hk_.got 5 14 _ (by kernel_rfl) rfl rfl
          have hg_ : a_.eval (.tmp 11) = .bool false := hk_.got 2 11 _ (by kernel_rfl) rfl rfl
          have hy_ := hk_.want 2 _ 11 false rfl rfl hg_
          have hx_ := hk_.ext
          clear hk_
          refine flow_want rfl hy_ ?_
          unfold gives
          have hc_ : ∀ v, a_.eval (.const v) = v := fun _ => rfl
          have hn_ : ∀ f, a_.eval (.func f) = .func (.func f) #[] #[] := fun _ => rfl
          clear hy_ hg_
          generalize a_.eval = ρ_ at *
          go_simp
          exact ⟨Below.refl _ _, rfl⟩
        refine allFrom_cons ?_ ?_
        · intro a_ w_ hk_
          have h12 : a_.eval (.tmp 12) = (.int .i64 (q : Int)) := hk_.got 3 12 _ (by kernel_rfl) rfl rfl
          have h15 : a_.eval (.tmp 15) = (.int .i64 (D.n : Int)) := hk_.got 6 15 _ (by kernel_rfl) rfl rfl
          have hg_ : a_.eval (.tmp 11) = .bool false := hk_.got 2 11 _ (by kernel_rfl) rfl rfl
          have hy_ := hk_.want 2 _ 11 false rfl rfl hg_
          have hx_ := hk_.ext
          clear hk_
          refine flow_want rfl hy_ ?_
          unfold gives
          have hc_ : ∀ v, a_.eval (.const v) = v := fun _ => rfl
          have hn_ : ∀ f, a_.eval (.func f) = .func (.func f) #[] #[] := fun _ => rfl
          clear hy_ hg_
          generalize a_.eval = ρ_ at *
          go_simp
          first | exact ⟨Below.refl _ _, rfl⟩ | exact ⟨Below.refl _ _, congrArg Value.bool (decide_eq_false (by omega))⟩
        refine allFrom_cons ?_ ?_
        · intro a_ w_ hk_
          have h11 : a_.eval (.tmp 11) = (.bool false) := hk_.got 2 11 _ (by kernel_rfl) rfl rfl
          have h16 : a_.eval (.tmp 16) = (.bool false) := hk_.got 7 16 _ (by kernel_rfl) rfl rfl
          have hx_ := hk_.ext
          clear hk_
          refine flow_plain rfl ?_
          exact gives_pick rfl h11 ⟨Below.refl _ _, h16⟩
        exact allFrom_nil
      intro f_ w_ hx_ hf_
      have h9 : f_ 9 = (.int .i64 (q : Int)) := hf_ 0 9 _ (by decide) rfl rfl
      have h10 : f_ 10 = (.bool false) := hf_ 1 10 _ (by decide) rfl rfl
      have h11 : f_ 11 = (.bool false) := hf_ 2 11 _ (by decide) rfl rfl
      have h12 : f_ 12 = (.int .i64 (q : Int)) := hf_ 3 12 _ (by decide) rfl rfl
      have h13 : f_ 13 = (.pointer (some ⟨w.heap.size, 0, none⟩)) := hf_ 4 13 _ (by decide) rfl rfl
      have h14 : f_ 14 = (.slice A D.n c) := hf_ 5 14 _ (by decide) rfl rfl
      have h15 : f_ 15 = (.int .i64 (D.n : Int)) := hf_ 6 15 _ (by decide) rfl rfl
      have h16 : f_ 16 = (.bool false) := hf_ 7 16 _ (by decide) rfl rfl
      have h17 : f_ 17 = (.bool false) := hf_ 8 17 _ (by decide) rfl rfl
      simp only [mix, h9, h10, h11, h12, h13, h14, h15, h16, h17]
      clear h9 h10 h11 h12 h13 h14 h15 h16 h17
      clear hf_
      obtain ⟨w1, hw1⟩ : ∃ w1, w1 = w_ := ⟨_, rfl⟩
      rw [← hw1] at hx_ ⊢
      clear hw1
      have hb1 := bx_trans hb0 hx_
      have hbx1 := hbx.below hx_ lgx
      have d0' := cellD0 hbx1
      have d1' := cellD1 hbx1
      have h1 := h'.below hx_
      have H1 := hid h1
      clear h' h1 hbx hb0 c0' c1' c3' hx_ h lgx ht
      go_wp2_with fail
      go_loopw [6] (fun v6 wr => ∃ (k : Nat) (z : Int), k ≤ D.loose.length ∧ v6 = .int .i64 z ∧ z = (k : Int) - 1 ∧ readAt D (q : Int) = readL (q : Int) (D.loose.take k) (goodAt D (q : Int)) ∧ Below w1.heap.size w1 wr) (fun v6 _ => (intOf v6 + 1).toNat)
      case atStart => exact ⟨D.loose.length, _, Nat.le_refl _, rfl, rfl, by rw [List.take_length]; rfl, Below.refl _ _⟩
      case round =>
        obtain ⟨k, z, hk, rfl, hz, hrd, hbr⟩ := hrel
        rename World => wr
        replace hb1 := bx_trans hb1 hbr
        replace hbx1 := hbx1.below hbr hbx1.lt
        replace d0' := cellD0 hbx1
        replace d1' := cellD1 hbx1
        replace H1 := hid (H1.out.below hbr)
        cases k with
        | zero =>
          obtain rfl : z = -1 := by omega
          clear hz
          have hgv : goodAt D (q : Int) = readAt D (q : Int) := by rw [hrd]; rfl
          obtain ⟨b2, off2, rfl, hb2, hc2⟩ := H1.out.g.at_ (k := q) (by rw [List.length_map, rGood_len]; exact hqn)
          have hcq := hc2 q (.string ⟨(readAt D (q : Int)).toArray⟩) (by rw [List.getElem?_map, rGood_get hqn, hgv]; rfl)
          clear hc2 hrd
          go_wp2_with fail
          exact bodyPost_ret (results_tmp2 rfl _ _ _) rfl ⟨rfl, hb1⟩
        | succ j =>
          obtain rfl : z = (j : Int) := by omega
          clear hz
          have hjl : j < D.loose.length := hk
          have hji : (j : Int) < (D.loose.length : Int) := by omega
          have hsn : readL (q : Int) (D.loose.take (j + 1)) (goodAt D (q : Int)) = if D.loose[j].1 = (q : Int) then D.loose[j].2 else readL (q : Int) (D.loose.take j) (goodAt D (q : Int)) := by rw [List.take_succ_eq_append_getElem hjl, readL_snoc]
          obtain ⟨b2, off2, rfl, hb2, hc2⟩ := H1.out.l.at_ (k := j * 2) (by rw [lst_len]; omega)
          have hca := hc2 _ _ (lst_get hjl).1
          have hcb := hc2 _ _ (lst_get hjl).2
          rw [hsn] at hrd
          rw [← Nat.add_assoc] at hcb
          clear hsn hc2
          generalize D.loose[j] = x at *
          have hcb' : wr.cell? ⟨b2, off2 + j * 2 + 1, none⟩ = some (.string ⟨x.2.toArray⟩) := hcb
          clear hcb
          by_cases hxi : x.1 = (q : Int)
          · have e1 : (x.1 == (q : Int)) = true := by simpa using hxi
            rw [if_pos hxi] at hrd
            have HRD := hid hrd
            clear hxi hrd
            go_wp2_with fail
            refine wp_hold (wp_region_lit ?_)
            refine wp_flowSE [0, 1, 3, 7, 15, 31, 63, 127] 8 [false, false, false, false, false, false, false, false, false, false, false, false, false, false, false, false, false, false, false, false, false, false, false, false, false, false, true, true, true, true, true, true, true, true] (by kernel_rfl) (by kernel_rfl) (by kernel_rfl) [FP.eq (.pointer (some ⟨w.heap.size, 1, none⟩)), FP.eq (.slice (some ⟨b2, off2, none⟩) D.loose.length c2), FP.eq (.int .i64 (j : Int)), FP.eq (.pointer (some ⟨b2, off2 + j * 2, none⟩)), FP.eq (.pointer (some ⟨b2, off2 + j * 2, none⟩)), FP.eq (.int .i64 x.1), FP.eq (.int .i64 (q : Int)), FP.eq (.bool true)] ?_ ?_
            · refine allFrom_cons ?_ ?_
              · intro a_ w_ hk_
                have h2 : a_.eval (.tmp 2) = .pointer (some ⟨w.heap.size, 0, none⟩) := hk_.old 2 (by kernel_rfl)
                have hx_ := hk_.ext
                clear hk_
                refine flow_plain rfl ?_
                unfold gives
                have hc_ : ∀ v, a_.eval (.const v) = v := fun _ => rfl
                have hn_ : ∀ f, a_.eval (.func f) = .func (.func f) #[] #[] := fun _ => rfl
                generalize a_.eval = ρ_ at *
                go_simp
                exact ⟨Below.refl _ _, rfl⟩
              refine allFrom_cons ?_ ?_
              · intro a_ w_ hk_
                have h26 : a_.eval (.tmp 26) = (.pointer (some ⟨w.heap.size, 1, none⟩)) := hk_.got 0 26 _ (by kernel_rfl) rfl rfl
                have hx_ := hk_.ext
                clear hk_
                refine flow_plain rfl ?_
                unfold gives
                have hc_ : ∀ v, a_.eval (.const v) = v := fun _ => rfl
                have hn_ : ∀ f, a_.eval (.func f) = .func (.func f) #[] #[] := fun _ => rfl
                have hcell := (hx_.cell (p := ⟨w.heap.size, 1, none⟩) hbx1.lt).trans d1'
                generalize a_.eval = ρ_ at *
                go_simp
                exact ⟨Below.refl _ _, rfl⟩
              refine allFrom_cons ?_ ?_
              · intro a_ w_ hk_
                have h6 : a_.eval (.tmp 6) = .int .i64 (j : Int) := hk_.old 6 (by kernel_rfl)
                have hx_ := hk_.ext
                clear hk_
                refine flow_plain rfl ?_
                exact gives_move rfl ⟨Below.refl _ _, h6⟩
              refine allFrom_cons ?_ ?_
              · intro a_ w_ hk_
                have h27 : a_.eval (.tmp 27) = (.slice (some ⟨b2, off2, none⟩) D.loose.length c2) := hk_.got 1 27 _ (by kernel_rfl) rfl rfl
                have h28 : a_.eval (.tmp 28) = (.int .i64 (j : Int)) := hk_.got 2 28 _ (by kernel_rfl) rfl rfl
                have hx_ := hk_.ext
                clear hk_
                refine flow_plain rfl ?_
                unfold gives
                have hc_ : ∀ v, a_.eval (.const v) = v := fun _ => rfl
                have hn_ : ∀ f, a_.eval (.func f) = .func (.func f) #[] #[] := fun _ => rfl
                generalize a_.eval = ρ_ at *
                go_simp
                exact ⟨Below.refl _ _, rfl⟩
              refine allFrom_cons ?_ ?_
              · intro a_ w_ hk_
                have h29 : a_.eval (.tmp 29) = (.pointer (some ⟨b2, off2 + j * 2, none⟩)) := hk_.got 3 29 _ (by kernel_rfl) rfl rfl
                have hx_ := hk_.ext
                clear hk_
                refine flow_plain rfl ?_
                unfold gives
                have hc_ : ∀ v, a_.eval (.const v) = v := fun _ => rfl
                have hn_ : ∀ f, a_.eval (.func f) = .func (.func f) #[] #[] := fun _ => rfl
                generalize a_.eval = ρ_ at *
                go_simp
                exact ⟨Below.refl _ _, rfl⟩
              refine allFrom_cons ?_ ?_
              · intro a_ w_ hk_
                have h30 : a_.eval (.tmp 30) = (.pointer (some ⟨b2, off2 + j * 2, none⟩)) := hk_.got 4 30 _ (by kernel_rfl) rfl rfl
                have hx_ := hk_.ext
                clear hk_
                refine flow_plain rfl ?_
                unfold gives
                have hc_ : ∀ v, a_.eval (.const v) = v := fun _ => rfl
                have hn_ : ∀ f, a_.eval (.func f) = .func (.func f) #[] #[] := fun _ => rfl
                have hcell := (hx_.cell (p := ⟨b2, off2 + j * 2, none⟩) hb2).trans hca
                generalize a_.eval = ρ_ at *
                go_simp
                exact ⟨Below.refl _ _, rfl⟩
              refine allFrom_cons ?_ ?_
              · intro a_ w_ hk_
                have h1 : a_.eval (.tmp 1) = .int .i64 (q : Int) := hk_.old 1 (by kernel_rfl)
                have hx_ := hk_.ext
                clear hk_
                refine flow_plain rfl ?_
                exact gives_move rfl ⟨Below.refl _ _, h1⟩
              refine allFrom_cons ?_ ?_
              · intro a_ w_ hk_
                have h31 : a_.eval (.tmp 31) = (.int .i64 x.1) := hk_.got 5 31 _ (by kernel_rfl) rfl rfl
                have h32 : a_.eval (.tmp 32) = (.int .i64 (q : Int)) := hk_.got 6 32 _ (by kernel_rfl) rfl rfl
                have hx_ := hk_.ext
                clear hk_
                refine flow_plain rfl ?_
                unfold gives
                have hc_ : ∀ v, a_.eval (.const v) = v := fun _ => rfl
                have hn_ : ∀ f, a_.eval (.func f) = .func (.func f) #[] #[] := fun _ => rfl
                generalize a_.eval = ρ_ at *
                go_simp
                exact ⟨Below.refl _ _, rfl⟩
              exact allFrom_nil
            intro f_ w_ hx_ hf_
            have h26 : f_ 26 = (.pointer (some ⟨w.heap.size, 1, none⟩)) := hf_ 0 26 _ (by decide) rfl rfl
            have h27 : f_ 27 = (.slice (some ⟨b2, off2, none⟩) D.loose.length c2) := hf_ 1 27 _ (by decide) rfl rfl
            have h28 : f_ 28 = (.int .i64 (j : Int)) := hf_ 2 28 _ (by decide) rfl rfl
            have h29 : f_ 29 = (.pointer (some ⟨b2, off2 + j * 2, none⟩)) := hf_ 3 29 _ (by decide) rfl rfl
            have h30 : f_ 30 = (.pointer (some ⟨b2, off2 + j * 2, none⟩)) := hf_ 4 30 _ (by decide) rfl rfl
            have h31 : f_ 31 = (.int .i64 x.1) := hf_ 5 31 _ (by decide) rfl rfl
            have h32 : f_ 32 = (.int .i64 (q : Int)) := hf_ 6 32 _ (by decide) rfl rfl
            have h33 : f_ 33 = (.bool true) := hf_ 7 33 _ (by decide) rfl rfl
            simp only [mix, h26, h27, h28, h29, h30, h31, h32, h33]
            clear h26 h27 h28 h29 h30 h31 h32 h33
            clear hf_
            have d1'' := (hx_.cell (p := ⟨w.heap.size, 1, none⟩) hbx1.lt).trans d1'
            have hcb'' := (hx_.cell (p := ⟨b2, off2 + j * 2 + 1, none⟩) hb2).trans hcb'
            go_wp2_with fail
            exact bodyPost_ret (results_tmp2 rfl _ _ _) rfl ⟨by rw [HRD.out]; rfl, bx_trans hb1 hx_⟩
          · have e1 : (x.1 == (q : Int)) = false := by simpa using hxi
            rw [if_neg hxi] at hrd
            clear hxi
            have HRD := hid hrd
            clear hrd
            go_wp2_with fail
            refine wp_hold (wp_region_lit ?_)
            refine wp_flowSE [0, 1, 3, 7, 15, 31, 63, 127] 8 [false, false, false, false, false, false, false, false, false, false, false, false, false, false, false, false, false, false, false, false, false, false, false, false, false, false, true, true, true, true, true, true, true, true] (by kernel_rfl) (by kernel_rfl) (by kernel_rfl) [FP.eq (.pointer (some ⟨w.heap.size, 1, none⟩)), FP.eq (.slice (some ⟨b2, off2, none⟩) D.loose.length c2), FP.eq (.int .i64 (j : Int)), FP.eq (.pointer (some ⟨b2, off2 + j * 2, none⟩)), FP.eq (.pointer (some ⟨b2, off2 + j * 2, none⟩)), FP.eq (.int .i64 x.1), FP.eq (.int .i64 (q : Int)), FP.eq (.bool false)] ?_ ?_
            · refine allFrom_cons ?_ ?_
              · intro a_ w_ hk_
                have h2 : a_.eval (.tmp 2) = .pointer (some ⟨w.heap.size, 0, none⟩) := hk_.old 2 (by kernel_rfl)
                have hx_ := hk_.ext
                clear hk_
                refine flow_plain rfl ?_
                unfold gives
                have hc_ : ∀ v, a_.eval (.const v) = v := fun _ => rfl
                have hn_ : ∀ f, a_.eval (.func f) = .func (.func f) #[] #[] := fun _ => rfl
                generalize a_.eval = ρ_ at *
                go_simp
                exact ⟨Below.refl _ _, rfl⟩
              refine allFrom_cons ?_ ?_
              · intro a_ w_ hk_
                have h26 : a_.eval (.tmp 26) = (.pointer (some ⟨w.heap.size, 1, none⟩)) := hk_.got 0 26 _ (by kernel_rfl) rfl rfl
                have hx_ := hk_.ext
                clear hk_
                refine flow_plain rfl ?_
                unfold gives
                have hc_ : ∀ v, a_.eval (.const v) = v := fun _ => rfl
                have hn_ : ∀ f, a_.eval (.func f) = .func (.func f) #[] #[] := fun _ => rfl
                have hcell := (hx_.cell (p := ⟨w.heap.size, 1, none⟩) hbx1.lt).trans d1'
                generalize a_.eval = ρ_ at *
                go_simp
                exact ⟨Below.refl _ _, rfl⟩
              refine allFrom_cons ?_ ?_
              · intro a_ w_ hk_
                have h6 : a_.eval (.tmp 6) = .int .i64 (j : Int) := hk_.old 6 (by kernel_rfl)
                have hx_ := hk_.ext
                clear hk_
                refine flow_plain rfl ?_
                exact gives_move rfl ⟨Below.refl _ _, h6⟩
              refine allFrom_cons ?_ ?_
              · intro a_ w_ hk_
                have h27 : a_.eval (.tmp 27) = (.slice (some ⟨b2, off2, none⟩) D.loose.length c2) := hk_.got 1 27 _ (by kernel_rfl) rfl rfl
                have h28 : a_.eval (.tmp 28) = (.int .i64 (j : Int)) := hk_.got 2 28 _ (by kernel_rfl) rfl rfl
                have hx_ := hk_.ext
                clear hk_
                refine flow_plain rfl ?_
                unfold gives
                have hc_ : ∀ v, a_.eval (.const v) = v := fun _ => rfl
                have hn_ : ∀ f, a_.eval (.func f) = .func (.func f) #[] #[] := fun _ => rfl
                generalize a_.eval = ρ_ at *
                go_simp
                exact ⟨Below.refl _ _, rfl⟩
              refine allFrom_cons ?_ ?_
              · intro a_ w_ hk_
                have h29 : a_.eval (.tmp 29) = (.pointer (some ⟨b2, off2 + j * 2, none⟩)) := hk_.got 3 29 _ (by kernel_rfl) rfl rfl
                have hx_ := hk_.ext
                clear hk_
                refine flow_plain rfl ?_
                unfold gives
                have hc_ : ∀ v, a_.eval (.const v) = v := fun _ => rfl
                have hn_ : ∀ f, a_.eval (.func f) = .func (.func f) #[] #[] := fun _ => rfl
                generalize a_.eval = ρ_ at *
                go_simp
                exact ⟨Below.refl _ _, rfl⟩
              refine allFrom_cons ?_ ?_
              · intro a_ w_ hk_
                have h30 : a_.eval (.tmp 30) = (.pointer (some ⟨b2, off2 + j * 2, none⟩)) := hk_.got 4 30 _ (by kernel_rfl) rfl rfl
                have hx_ := hk_.ext
                clear hk_
                refine flow_plain rfl ?_
                unfold gives
                have hc_ : ∀ v, a_.eval (.const v) = v := fun _ => rfl
                have hn_ : ∀ f, a_.eval (.func f) = .func (.func f) #[] #[] := fun _ => rfl
                have hcell := (hx_.cell (p := ⟨b2, off2 + j * 2, none⟩) hb2).trans hca
                generalize a_.eval = ρ_ at *
                go_simp
                exact ⟨Below.refl _ _, rfl⟩
              refine allFrom_cons ?_ ?_
              · intro a_ w_ hk_
                have h1 : a_.eval (.tmp 1) = .int .i64 (q : Int) := hk_.old 1 (by kernel_rfl)
                have hx_ := hk_.ext
                clear hk_
                refine flow_plain rfl ?_
                exact gives_move rfl ⟨Below.refl _ _, h1⟩
              refine allFrom_cons ?_ ?_
              · intro a_ w_ hk_
                have h31 : a_.eval (.tmp 31) = (.int .i64 x.1) := hk_.got 5 31 _ (by kernel_rfl) rfl rfl
                have h32 : a_.eval (.tmp 32) = (.int .i64 (q : Int)) := hk_.got 6 32 _ (by kernel_rfl) rfl rfl
                have hx_ := hk_.ext
                clear hk_
                refine flow_plain rfl ?_
                unfold gives
                have hc_ : ∀ v, a_.eval (.const v) = v := fun _ => rfl
                have hn_ : ∀ f, a_.eval (.func f) = .func (.func f) #[] #[] := fun _ => rfl
                generalize a_.eval = ρ_ at *
                go_simp
                exact ⟨Below.refl _ _, rfl⟩
              exact allFrom_nil
            intro f_ w_ hx_ hf_
            have h26 : f_ 26 = (.pointer (some ⟨w.heap.size, 1, none⟩)) := hf_ 0 26 _ (by decide) rfl rfl
            have h27 : f_ 27 = (.slice (some ⟨b2, off2, none⟩) D.loose.length c2) := hf_ 1 27 _ (by decide) rfl rfl
            have h28 : f_ 28 = (.int .i64 (j : Int)) := hf_ 2 28 _ (by decide) rfl rfl
            have h29 : f_ 29 = (.pointer (some ⟨b2, off2 + j * 2, none⟩)) := hf_ 3 29 _ (by decide) rfl rfl
            have h30 : f_ 30 = (.pointer (some ⟨b2, off2 + j * 2, none⟩)) := hf_ 4 30 _ (by decide) rfl rfl
            have h31 : f_ 31 = (.int .i64 x.1) := hf_ 5 31 _ (by decide) rfl rfl
            have h32 : f_ 32 = (.int .i64 (q : Int)) := hf_ 6 32 _ (by decide) rfl rfl
            have h33 : f_ 33 = (.bool false) := hf_ 7 33 _ (by decide) rfl rfl
            simp only [mix, h26, h27, h28, h29, h30, h31, h32, h33]
            clear h26 h27 h28 h29 h30 h31 h32 h33
            clear hf_
            go_wp2_with fail
            exact ⟨⟨j, _, by omega, rfl, rfl, HRD.out, bx_trans hbr hx_⟩, by show ((j : Int) - 1 + 1).toNat < ((j : Int) + 1).toNat; omega⟩
    · have hE : readE D i = 15 := by unfold readE; rw [hd, if_neg (by decide), if_neg ht]
      have hV : readV D i = [] := by unfold readV; rw [hE]; rfl
      rw [hE, hV]
      clear hE hV
      have hti : i < 0 ∨ (D.n : Int) ≤ i := by
        unfold thereB at ht
        simp at ht
        omega
      by_cases hi0 : i < 0
      · go_wp2_with fail
        refine wp_hold (wp_region_lit ?_)
        refine wp_flowSE [0, 1, 3, 7, 15, 31, 63, 127, 255] 9 [false, false, false, false, false, false, false, false, false, true, true, true, true, true, true, true, true, true] (by kernel_rfl) (by kernel_rfl) (by kernel_rfl) [FP.eq (.int .i64 i), FP.eq (.bool true), FP.eq (.bool true), FP.any, FP.any, FP.any, FP.any, FP.any, FP.eq (.bool true)] ?_ ?_
        · refine allFrom_cons ?_ ?_
          · intro a_ w_ hk_
            have h1 : a_.eval (.tmp 1) = .int .i64 i := hk_.old 1 (by kernel_rfl)
            have hx_ := hk_.ext
            clear hk_
            refine flow_plain rfl ?_
            exact gives_move rfl ⟨Below.refl _ _, h1⟩
          refine allFrom_cons ?_ ?_
          · intro a_ w_ hk_
            have h9 : a_.eval (.tmp 9) = (.int .i64 i) := hk_.got 0 9 _ (by kernel_rfl) rfl rfl
            have hx_ := hk_.ext
            clear hk_
            refine flow_plain rfl ?_
            unfold gives
            have hc_ : ∀ v, a_.eval (.const v) = v := fun _ => rfl
            have hn_ : ∀ f, a_.eval (.func f) = .func (.func f) #[] #[] := fun _ => rfl
            generalize a_.eval = ρ_ at *
            go_simp
            first | exact ⟨Below.refl _ _, rfl⟩ | exact ⟨Below.refl _ _, congrArg Value.bool (decide_eq_true (by omega))⟩
          refine allFrom_cons ?_ ?_
          · intro a_ w_ hk_
            have h10 : a_.eval (.tmp 10) = (.bool true) := hk_.got 1 10 _ (by kernel_rfl) rfl rfl
            have hx_ := hk_.ext
            clear hk_
            refine flow_plain rfl ?_
            exact gives_move rfl ⟨Below.refl _ _, h10⟩
          refine allFrom_cons ?_ ?_
          · intro a_ w_ hk_
            have h1 : a_.eval (.tmp 1) = .int .i64 i := hk_.old 1 (by kernel_rfl)
            have hg_ : a_.eval (.tmp 11) = .bool true := hk_.got 2 11 _ (by kernel_rfl) rfl rfl
            have hy_ := hk_.want 2 _ 11 true rfl rfl hg_
            have hx_ := hk_.ext
            clear hk_
            exact flow_skip rfl hy_ (by decide) trivial
          refine allFrom_cons ?_ ?_
          · intro a_ w_ hk_
            have h2 : a_.eval (.tmp 2) = .pointer (some ⟨w.heap.size, 0, none⟩) := hk_.old 2 (by kernel_rfl)
            have hg_ : a_.eval (.tmp 11) = .bool true := hk_.got 2 11 _ (by kernel_rfl) rfl rfl
            have hy_ := hk_.want 2 _ 11 true rfl rfl hg_
            have hx_ := hk_.ext
            clear hk_
            exact flow_skip rfl hy_ (by decide) trivial
          refine allFrom_cons ?_ ?_
          · intro a_ w_ hk_
            have hg_ : a_.eval (.tmp 11) = .bool true := hk_.got 2 11 _ (by kernel_rfl) rfl rfl
            have hy_ := hk_.want 2 _ 11 true rfl rfl hg_
            have hx_ := hk_.ext
            clear hk_
            exact flow_skip rfl hy_ (by decide) trivial
          refine allFrom_cons ?_ ?_
          · intro a_ w_ hk_
            have hg_ : a_.eval (.tmp 11) = .bool true := hk_.got 2 11 _ (by kernel_rfl) rfl rfl
            have hy_ := hk_.want 2 _ 11 true rfl rfl hg_
            have hx_ := hk_.ext
            clear hk_
            exact flow_skip rfl hy_ (by decide) trivial
          refine allFrom_cons ?_ ?_
          · intro a_ w_ hk_
            have hg_ : a_.eval (.tmp 11) = .bool true := hk_.got 2 11 _ (by kernel_rfl) rfl rfl
            have hy_ := hk_.want 2 _ 11 true rfl rfl hg_
            have hx_ := hk_.ext
            clear hk_
            exact flow_skip rfl hy_ (by decide) trivial
          refine allFrom_cons ?_ ?_
          · intro a_ w_ hk_
            have h11 : a_.eval (.tmp 11) = (.bool true) := hk_.got 2 11 _ (by kernel_rfl) rfl rfl
            have hx_ := hk_.ext
            clear hk_
            refine flow_plain rfl ?_
            exact gives_pick rfl h11 ⟨Below.refl _ _, rfl⟩
          exact allFrom_nil
        intro f_ w_ hx_ hf_
        have h9 : f_ 9 = (.int .i64 i) := hf_ 0 9 _ (by decide) rfl rfl
        have h10 : f_ 10 = (.bool true) := hf_ 1 10 _ (by decide) rfl rfl
        have h11 : f_ 11 = (.bool true) := hf_ 2 11 _ (by decide) rfl rfl
        have h17 : f_ 17 = (.bool true) := hf_ 8 17 _ (by decide) rfl rfl
        simp only [mix, h9, h10, h11, h17]
        clear h9 h10 h11 h17
        clear hf_
        go_wp2_with fail
        exact bodyPost_ret (results_tmp2 rfl _ _ _) rfl ⟨rfl, bx_trans hb0 hx_⟩
      · go_wp2_with fail
        refine wp_hold (wp_region_lit ?_)
        refine wp_flowSE [0, 1, 3, 7, 15, 31, 63, 127, 255] 9 [false, false, false, false, false, false, false, false, false, true, true, true, true, true, true, true, true, true] (by kernel_rfl) (by kernel_rfl) (by kernel_rfl) [FP.eq (.int .i64 i), FP.eq (.bool false), FP.eq (.bool false), FP.eq (.int .i64 i), FP.eq (.pointer (some ⟨w.heap.size, 0, none⟩)), FP.eq (.slice A D.n c), FP.eq (.int .i64 (D.n : Int)), FP.eq (.bool true), FP.eq (.bool true)] ?_ ?_
        · refine allFrom_cons ?_ ?_
          · intro a_ w_ hk_
            have h1 : a_.eval (.tmp 1) = .int .i64 i := hk_.old 1 (by kernel_rfl)
            have hx_ := hk_.ext
            clear hk_
            refine flow_plain rfl ?_
            exact gives_move rfl ⟨Below.refl _ _, h1⟩
          refine allFrom_cons ?_ ?_
          · intro a_ w_ hk_
            have h9 : a_.eval (.tmp 9) = (.int .i64 i) := hk_.got 0 9 _ (by kernel_rfl) rfl rfl
            have hx_ := hk_.ext
            clear hk_
            refine flow_plain rfl ?_
            unfold gives
            have hc_ : ∀ v, a_.eval (.const v) = v := fun _ => rfl
            have hn_ : ∀ f, a_.eval (.func f) = .func (.func f) #[] #[] := fun _ => rfl
            generalize a_.eval = ρ_ at *
            go_simp
            first | exact ⟨Below.refl _ _, rfl⟩ | exact ⟨Below.refl _ _, congrArg Value.bool (decide_eq_false (by omega))⟩
          refine allFrom_cons ?_ ?_
          · intro a_ w_ hk_
            have h10 : a_.eval (.tmp 10) = (.bool false) := hk_.got 1 10 _ (by kernel_rfl) rfl rfl
            have hx_ := hk_.ext
            clear hk_
            refine flow_plain rfl ?_
            exact gives_move rfl ⟨Below.refl _ _, h10⟩
          refine allFrom_cons ?_ ?_
          · intro a_ w_ hk_
            have h1 : a_.eval (.tmp 1) = .int .i64 i := hk_.old 1 (by kernel_rfl)
            have hg_ : a_.eval (.tmp 11) = .bool false := hk_.got 2 11 _ (by kernel_rfl) rfl rfl
            have hy_ := hk_.want 2 _ 11 false rfl rfl hg_
            have hx_ := hk_.ext
            clear hk_
            refine flow_want rfl hy_ ?_
            exact gives_move rfl ⟨Below.refl _ _, h1⟩
          refine allFrom_cons ?_ ?_
          · intro a_ w_ hk_
            have h2 : a_.eval (.tmp 2) = .pointer (some ⟨w.heap.size, 0, none⟩) := hk_.old 2 (by kernel_rfl)
            have hg_ : a_.eval (.tmp 11) = .bool false := hk_.got 2 11 _ (by kernel_rfl) rfl rfl
            have hy_ := hk_.want 2 _ 11 false rfl rfl hg_
            have hx_ := hk_.ext
            clear hk_
            refine flow_want rfl hy_ ?_
            unfold gives
            have hc_ : ∀ v, a_.eval (.const v) = v := fun _ => rfl
            have hn_ : ∀ f, a_.eval (.func f) = .func (.func f) #[] #[] := fun _ => rfl
            clear hy_ hg_
            generalize a_.eval = ρ_ at *
            go_simp
            exact ⟨Below.refl _ _, rfl⟩
          refine allFrom_cons ?_ ?_
          · intro a_ w_ hk_
            have h13 : a_.eval (.tmp 13) = (.pointer (some ⟨w.heap.size, 0, none⟩)) := hk_.got 4 13 _ (by kernel_rfl) rfl rfl
            have hg_ : a_.eval (.tmp 11) = .bool false := hk_.got 2 11 _ (by kernel_rfl) rfl rfl
            have hy_ := hk_.want 2 _ 11 false rfl rfl hg_
            have hx_ := hk_.ext
            clear hk_
            refine flow_want rfl hy_ ?_
            unfold gives
            have hc_ : ∀ v, a_.eval (.const v) = v := fun _ => rfl
            have hn_ : ∀ f, a_.eval (.func f) = .func (.func f) #[] #[] := fun _ => rfl
            clear hy_ hg_
            have hcell := (hx_.cell (p := ⟨w.heap.size, 0, none⟩) lgx).trans c0'
            generalize a_.eval = ρ_ at *
            go_simp
            exact ⟨Below.refl _ _, rfl⟩
          refine allFrom_cons ?_ ?_
          · intro a_ w_ hk_
            have h14 : a_.eval (.tmp 14) = (.slice A D.n c) := hk_.got 5 14 _ (by kernel_rfl) rfl rfl
            have hg_ : a_.eval (.tmp 11) = .bool false := hk_.got 2 11 _ (by kernel_rfl) rfl rfl
            have hy_ := hk_.want 2 _ 11 false rfl rfl hg_
            have hx_ := hk_.ext
            clear hk_
            refine flow_want rfl hy_ ?_
            unfold gives
            have hc_ : ∀ v, a_.eval (.const v) = v := fun _ => rfl
            have hn_ : ∀ f, a_.eval (.func f) = .func (.func f) #[] #[] := fun _ => rfl
            clear hy_ hg_
            generalize a_.eval = ρ_ at *
            go_simp
            exact ⟨Below.refl _ _, rfl⟩
          refine allFrom_cons ?_ ?_
          · intro a_ w_ hk_
            have h12 : a_.eval (.tmp 12) = (.int .i64 i) := hk_.got 3 12 _ (by kernel_rfl) rfl rfl
            have h15 : a_.eval (.tmp 15) = (.int .i64 (D.n : Int)) := hk_.got 6 15 _ (by kernel_rfl) rfl rfl
            have hg_ : a_.eval (.tmp 11) = .bool false := hk_.got 2 11 _ (by kernel_rfl) rfl rfl
            have hy_ := hk_.want 2 _ 11 false rfl rfl hg_
            have hx_ := hk_.ext
            clear hk_
            refine flow_want rfl hy_ ?_
            unfold gives
            have hc_ : ∀ v, a_.eval (.const v) = v := fun _ => rfl
            have hn_ : ∀ f, a_.eval (.func f) = .func (.func f) #[] #[] := fun _ => rfl
            clear hy_ hg_
            generalize a_.eval = ρ_ at *
            go_simp
            first | exact ⟨Below.refl _ _, rfl⟩ | exact ⟨Below.refl _ _, congrArg Value.bool (decide_eq_true (by omega))⟩
          refine allFrom_cons ?_ ?_
          · intro a_ w_ hk_
            have h11 : a_.eval (.tmp 11) = (.bool false) := hk_.got 2 11 _ (by kernel_rfl) rfl rfl
            have h16 : a_.eval (.tmp 16) = (.bool true) := hk_.got 7 16 _ (by kernel_rfl) rfl rfl
            have hx_ := hk_.ext
            clear hk_
            refine flow_plain rfl ?_
            exact gives_pick rfl h11 ⟨Below.refl _ _, h16⟩
          exact allFrom_nil
        intro f_ w_ hx_ hf_
        have h9 : f_ 9 = (.int .i64 i) := hf_ 0 9 _ (by decide) rfl rfl
        have h10 : f_ 10 = (.bool false) := hf_ 1 10 _ (by decide) rfl rfl
        have h11 : f_ 11 = (.bool false) := hf_ 2 11 _ (by decide) rfl rfl
        have h12 : f_ 12 = (.int .i64 i) := hf_ 3 12 _ (by decide) rfl rfl
        have h13 : f_ 13 = (.pointer (some ⟨w.heap.size, 0, none⟩)) := hf_ 4 13 _ (by decide) rfl rfl
        have h14 : f_ 14 = (.slice A D.n c) := hf_ 5 14 _ (by decide) rfl rfl
        have h15 : f_ 15 = (.int .i64 (D.n : Int)) := hf_ 6 15 _ (by decide) rfl rfl
        have h16 : f_ 16 = (.bool true) := hf_ 7 16 _ (by decide) rfl rfl
        have h17 : f_ 17 = (.bool true) := hf_ 8 17 _ (by decide) rfl rfl
        simp only [mix, h9, h10, h11, h12, h13, h14, h15, h16, h17]
        clear h9 h10 h11 h12 h13 h14 h15 h16 h17
        clear hf_
        go_wp2_with fail
        exact bodyPost_ret (results_tmp2 rfl _ _ _) rfl ⟨rfl, bx_trans hb0 hx_⟩
end Go.Proofs.Ytnbjoebdbbhbkaa
