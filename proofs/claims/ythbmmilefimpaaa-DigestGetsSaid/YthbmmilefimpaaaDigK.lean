
/- DigestMeets: its walk. -/
import Derived.Test.YthbmmilefimpaaaDigJ
namespace Go.Proofs.Ythbmmilefimpaaa
open Go.RowKit Go.Maps
set_option linter.unusedVariables false
theorem mem_notsL {α : Type} [DecidableEq α] (other : List α) (x : α) : ∀ (l pre : List α), x ∈ notsL other pre l ↔ x ∈ l ∧ x ∉ other ++ pre
  | [], pre => by simp [notsL]
  | y :: r, pre => by
    unfold notsL
    have ih := mem_notsL other x r (pre ++ [y])
    split
    · rename_i hy
      rw [ih]
      simp only [List.mem_append, List.mem_cons, List.not_mem_nil, or_false, not_or] at *
      constructor
      · rintro ⟨h1, h2, h3, h4⟩
        exact ⟨.inr h1, h2, h3⟩
      · rintro ⟨h1, h2, h3⟩
        have hne : x ≠ y := by
          rintro rfl
          exact hy.elim h2 h3
        exact ⟨h1.resolve_left hne, h2, h3, hne⟩
    · rename_i hy
      rw [List.mem_cons, ih]
      simp only [List.mem_append, List.mem_cons, List.not_mem_nil, or_false, not_or] at *
      constructor
      · rintro (rfl | ⟨h1, h2, h3, h4⟩)
        · exact ⟨.inl rfl, hy⟩
        · exact ⟨.inr h1, h2, h3⟩
      · rintro ⟨h1, h2, h3⟩
        by_cases hne : x = y
        · exact .inl hne
        · exact .inr ⟨h1.resolve_left hne, h2, h3, hne⟩
theorem mem_nots {α : Type} [DecidableEq α] {l other : List α} {x : α} : x ∈ nots l other ↔ x ∈ l ∧ x ∉ other := by
  unfold nots
  rw [mem_notsL, List.append_nil]
theorem nots_nil {α : Type} [DecidableEq α] {l other : List α} (h : ∀ x ∈ l, x ∈ other) : nots l other = [] := by
  cases hn : nots l other with
  | nil => rfl
  | cons y r =>
    have : y ∈ nots l other := by rw [hn]; exact List.mem_cons_self
    have := mem_nots.1 this
    exact absurd (h y this.1) this.2
theorem nots_ok {α : Type} [DecidableEq α] {p : α → Prop} {l other : List α} (h : ∀ x ∈ l, p x) : ∀ x ∈ nots l other, p x := fun x hx => h x (mem_nots.1 hx).1
theorem nots_le {α : Type} [DecidableEq α] (l other : List α) : (nots l other).length ≤ l.length := nots_len other l []
theorem last32_id {α : Type} {l : List α} (h : l.length ≤ 32) : last32 l = l := by
  unfold last32
  rw [Nat.sub_eq_zero_of_le h, List.drop_zero]
theorem nots_met {a b : List Key} : nots b (a ++ nots b a) = [] := nots_nil fun x hx => by
  by_cases h : x ∈ a
  · exact List.mem_append_left _ h
  · exact List.mem_append_right _ (mem_nots.2 ⟨hx, h⟩)
theorem built_dg1 (A : Option Addr) (n c : Nat) : Try.prog.built tDg [(0, .slice A n c)] = some #[.slice A n c, .slice none 0 0] := by kernel_rfl
/-- 'Digest{Keys: ..}'. -/
theorem buildD1 {ops : Array Oper} {rest : List Oper} {o : Oper} {a : Act} {w : World} {Q : Exit → Act → World → Prop} (hgd : Region.wanted o (yielded ops a.tmps) = true) {x : Operand} {A : Option Addr} {n c : Nat} (ho : o.op = .build tDg #[(0, x)]) (hx : a.eval x = .slice A n c)
    (h : wpList Try.prog ops Q rest (a.put o.dst (.agg #[.slice A n c, .slice none 0 0])) w) : wpList Try.prog ops Q (o :: rest) a w := by
  refine wpList_step fun K hK => ?_
  rw [if_pos hgd]
  unfold Oper.wp execOp
  have hp : (#[(0, x)] : Array (Nat × Operand)).map (fun (i, x) => (i, a.eval x)) = #[(0, .slice A n c)] := by simp [hx]
  simp only [ho, Sem.run_bind, hp, run_build w tDg #[(0, .slice A n c)] _ (built_dg1 A n c), Result.andThen_ok, Sem.run_pure]
  exact hK _ _ h
set_option maxRecDepth 10000 in
set_option maxHeartbeats 1000000 in
theorem DigestMeets_walk (w : World) (A0 : Option Addr) (c0 : Nat) (l0 : List Key) (hc0 : l0.length ≤ c0) (hm0 : c0 ≤ maxLen) (hx0 : ∀ k ∈ l0, kOk k) (hr0 : Rd w w.heap.size A0 (l0.map kc).flatten)
    (A1 : Option Addr) (c1 : Nat) (l1 : List Key) (hc1 : l1.length ≤ c1) (hm1 : c1 ≤ maxLen) (hx1 : ∀ k ∈ l1, kOk k) (hr1 : Rd w w.heap.size A1 (l1.map kc).flatten) :
    Calls Try.prog 6 #[.slice A0 l0.length c0, .slice A1 l1.length c1] w fun e w' => e = .returned (.bool true) ∧ Below w.heap.size w w' := by
  unfold maxLen at hm0 hm1
  have HR0 := hid hr0
  have HR1 := hid hr1
  have HX0 := hid hx0
  have HX1 := hid hx1
  clear hr0 hr1 hx0 hx1
  go_enter Try.func6, Try.ntmps6
  go_wp2_with fail
  refine (awake_any w).mono ?_
  rintro e w1 ⟨rfl, hb1⟩
  by_cases hs0 : 30 < l0.length
  · go_wp2
    go_ret
    exact ⟨rfl, hb1⟩
  by_cases hs1 : 30 < l1.length
  · go_wp2
    go_ret
    exact ⟨rfl, hb1⟩
  go_wp2_with fail
  refine (Make_any w1 (fr := []) HX0.out (by simp) ((HR0.out.below hb1).more hb1.size) (.inl rfl) (by omega) (by simp) hc0 (by omega) (by simp) (by simp)).mono ?_
  rintro e w2 ⟨v, u, rfl, hK2, hH2, hb2⟩
  rw [last32_id (show l0.length ≤ 32 by omega)] at hK2
  rw [show last32 ([] : List (List UInt8)) = [] from rfl] at hH2
  obtain ⟨AK, cK, rfl, _, _, _⟩ := own_form hK2
  obtain ⟨AH, cH, rfl, _, _, _⟩ := own_form hH2
  have hK2 := own_more hK2 (Nat.zero_le _)
  have hb02 := bx_trans hb1 hb2
  clear hb1 hH2 hb2
  go_wp2_with (first
    | (with_reducible refine wpAt ?_; refine wpList_alloc rfl _ rfl zDg ?_; intro g7 w7 hg7 hg7' hz7 hb7; simp only [Act.put, List.setIfInBounds_toArray, List.set_cons_succ, List.set_cons_zero])
    | (with_reducible refine wpAt ?_; refine storeD rfl rfl rfl rfl hz7 ?_; intro w8 hp8; simp only [Act.put]))
  have hd8 := hp8.blk
  have hK8 := own_put (own_keep hK2 hb7) hz7 hp8 (by decide)
  have hb08 := bx_put (bx_trans hb02 hb7) hp8 (Nat.le_trans hb02.size hg7)
  clear hK2 hb02 hz7
  refine (Make_any w8 (fr := []) HX1.out (by simp) ((HR1.out.below hb08).more hb08.size) (.inl rfl) (by omega) (by simp) hc1 (by omega) (by simp) (by simp)).mono ?_
  rintro e w9 ⟨v, u, rfl, hJ9, hH9, hb9⟩
  rw [last32_id (show l1.length ≤ 32 by omega)] at hJ9
  rw [show last32 ([] : List (List UInt8)) = [] from rfl] at hH9
  obtain ⟨AJ, cJ, rfl, _, _, _⟩ := own_form hJ9
  obtain ⟨AI, cI, rfl, _, _, _⟩ := own_form hH9
  have hJ9 := own_more hJ9 (Nat.zero_le _)
  have hb09 := bx_trans hb08 hb9
  have hd9 := hd8.below hb9 hd8.lt
  have hK9 := own_keep hK8 hb9
  clear hb08 hH9 hd8 hK8
  go_wp2_with (first
    | (with_reducible refine wpAt ?_; refine wpList_alloc rfl _ rfl zDg ?_; intro g10 w10 hg10 hg10' hz10 hb10; simp only [Act.put, List.setIfInBounds_toArray, List.set_cons_succ, List.set_cons_zero])
    | (with_reducible refine wpAt ?_; refine storeD rfl rfl rfl rfl hz10 ?_; intro w11 hp11; simp only [Act.put]; have hD11 := hp11.blk)
    | (with_reducible refine wpAt ?_; refine loadD rfl rfl rfl (by assumption) ?_; simp only [Act.put, List.setIfInBounds_toArray, List.set_cons_succ, List.set_cons_zero]))
  have hd11 := hp11.other (hd9.below hb10 hd9.lt) (Nat.ne_of_lt (Nat.lt_of_lt_of_le hd9.lt hg10))
  have hK11 := own_put (own_keep hK9 hb10) hz10 hp11 (by decide)
  have hJ11 := own_put (own_keep hJ9 hb10) hz10 hp11 (by decide)
  have hb011 := bx_put (bx_trans hb09 hb10) hp11 (Nat.le_trans hb09.size hg10)
  clear hK9 hJ9 hd9 hb09 hz10 hb9
  refine (Wants_any w11 (l := l1) (other := l0) HX1.out HX0.out (own_rd hJ11) ((HR0.out.below hb011).more hb011.size) (by omega) (by omega)).mono ?_
  rintro e w12 ⟨vw, rfl, hW12, hb12⟩
  have hnle := nots_le l1 l0
  have hnok := nots_ok (other := l0) HX1.out
  obtain ⟨AW, cW, rfl, _, _, _⟩ := own_form hW12
  have hW12 := own_more hW12 (Nat.zero_le _)
  have hb012 := bx_trans hb011 hb12
  have hd12 := hd11.below hb12 hd11.lt
  have hD12 := hD11.below hb12 hD11.lt
  have hK12 := own_keep hK11 hb12
  have hJ12 := own_keep hJ11 hb12
  clear hK11 hJ11 hd11 hD11 hb011
  go_wp2_with (with_reducible refine wpAt ?_; refine loadD rfl rfl rfl (by assumption) ?_; simp only [Act.put, List.setIfInBounds_toArray, List.set_cons_succ, List.set_cons_zero])
  refine (Lacks_any w12 (l := l1) (other := l0) HX1.out HX0.out ((HR1.out.below hb012).more hb012.size) (own_rd hK12) (by omega) (by omega)).mono ?_
  rintro e w13 ⟨vl, rfl, hL13, hb13⟩
  obtain ⟨AL, cL, rfl, _, _, _⟩ := own_form hL13
  have hL13 := own_more hL13 (Nat.zero_le _)
  have hb013 := bx_trans hb012 hb13
  have hD13 := hD12.below hb13 hD12.lt
  have hW13 := own_keep hW12 hb13
  have hJ13 := own_keep hJ12 hb13
  clear hd12 hD12 hK12 hJ12 hW12 hb012
  go_wp2_with fail
  refine (SameK_any w13 hnok hnok (own_rd hW13) (own_rd hL13) (by omega) (by omega)).mono ?_
  rintro e w14 ⟨rfl, hb14⟩
  rw [decide_eq_true rfl]
  have hb014 := bx_trans hb013 hb14
  have hD14 := hD13.below hb14 hD13.lt
  have hW14 := own_keep hW13 hb14
  have hJ14 := own_keep hJ13 hb14
  clear hD13 hW13 hL13 hJ13 hb013
  obtain ⟨all, hall⟩ : ∃ all, all = l0 ++ nots l1 l0 := ⟨_, rfl⟩
  have hmet : nots l1 all = [] := by rw [hall]; exact nots_met
  have hlen : l0.length + (nots l1 l0).length = all.length := by rw [hall, List.length_append]
  have hfl : (l0.map kc).flatten ++ ((nots l1 l0).map kc).flatten = (all.map kc).flatten := by rw [hall, List.map_append, List.flatten_append]
  have haok : ∀ k ∈ all, kOk k := by
    intro k hk
    rw [hall] at hk
    rcases List.mem_append.1 hk with hk | hk
    · exact HX0.out k hk
    · exact hnok k hk
  have hal : all.length ≤ 1000 := by omega
  have HMET := hid hmet
  have HLEN := hid hlen
  have HFL := hid hfl
  clear hmet hlen hfl hall
  have hr14 : Rd w14 w14.heap.size A0 (l0.map kc).flatten := (HR0.out.below hb014).more hb014.size
  have hl0 : (l0.map kc).flatten.length = l0.length * 33 := by rw [flatZ_len _ (mapLenK HX0.out), List.length_map]
  have hlw : ((nots l1 l0).map kc).flatten.length = (nots l1 l0).length * 33 := by rw [flatZ_len _ (mapLenK hnok), List.length_map]
  generalize nots l1 l0 = nw at *
  have HL0 := hid hl0
  have HLW := hid hlw
  clear hl0 hlw
  go_wp2_with (first
    | (at_builtin; refine wpList_app rfl _ _ _ rfl (.slice none 0 0) rfl _ _ _ rfl elK (World.ownsRow_nil w14 w14.heap.size 54 33) hr14 HL0.out (one_flat kc_one l0) (by unfold maxLen; omega) (by omega) (Nat.le_refl _) ?_; intro v15 w15 hown15 hgr15 hv15; have hb15 := own_below (Below.refl _ _) (World.ownsRow_nil w14 w14.heap.size 54 33) hgr15; rw [Nat.zero_add, List.nil_append] at hown15; obtain ⟨A15, c15, rfl, _, _, _⟩ := own_form hown15; have hW15 := own_keep hW14 hb15; simp only [Act.put, List.setIfInBounds_toArray, List.set_cons_succ, List.set_cons_zero])
    | (at_builtin; refine wpList_app rfl _ _ _ rfl (.slice A15 l0.length c15) rfl _ _ _ rfl elK hown15 (own_rd hW15) HLW.out (one_flat kc_one nw) (by unfold maxLen; omega) (by omega) hb15.size ?_; intro v16 w16 hown16 hgr16 hv16; have hb16 := own_below hb15 hown15 hgr16; rw [HLEN.out, HFL.out] at hown16; obtain ⟨A16, c16, rfl, _, _, _⟩ := own_form hown16; have hD16 := hD14.below hb16 hD14.lt; simp only [Act.put, List.setIfInBounds_toArray, List.set_cons_succ, List.set_cons_zero])
    | (with_reducible refine wpAt ?_; refine loadD rfl rfl rfl hD16 ?_; simp only [Act.put, List.setIfInBounds_toArray, List.set_cons_succ, List.set_cons_zero]))
  have hb016 := bx_trans hb014 hb16
  have hJ16 := own_keep hJ14 hb16
  clear hW14 hJ14 hD14 hW15 hown15 hb15 hb16 hgr15 hgr16 hv15 hv16 hb014 hr14
  refine (Wants_any w16 (l := l1) (other := all) HX1.out haok (own_rd hJ16) (own_rd hown16) (by omega) (by omega)).mono ?_
  rintro e w17 ⟨vn, rfl, hN17, hb17⟩
  rw [HMET.out] at hN17
  obtain ⟨AN, cN, rfl, _, _, _⟩ := own_form hN17
  have hb017 := bx_trans hb016 hb17
  have hA17 := own_keep hown16 hb17
  clear hN17 hb016 hJ16 hown16
  go_wp2_with (with_reducible refine wpAt ?_; refine buildD1 rfl rfl rfl ?_; simp only [Act.put, List.setIfInBounds_toArray, List.set_cons_succ, List.set_cons_zero])
  refine (Lacks_any w17 (l := l1) (other := all) HX1.out haok ((HR1.out.below hb017).more hb017.size) (own_rd hA17) (by omega) (by omega)).mono ?_
  rintro e w18 ⟨vm, rfl, hM18, hb18⟩
  rw [HMET.out] at hM18
  obtain ⟨AM, cM, rfl, _, _, _⟩ := own_form hM18
  go_wp2
  go_ret
  exact ⟨rfl, bx_trans hb017 hb18⟩
end Go.Proofs.Ythbmmilefimpaaa
