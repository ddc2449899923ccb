
/- Copies of rows, their last ones. -/
import Derived.Test.YthbmmilefimpaaaDigA
namespace Go.Proofs.Ythbmmilefimpaaa
open Go.RowKit Go.Maps
set_option linter.unusedVariables false
theorem nullK {w : World} {B : Nat} {ks : List Key} (hok : ∀ k ∈ ks, kOk k) (h : Rd w B none (ks.map kc).flatten) : ks = [] := by
  have h0 : (ks.map kc).flatten = [] := by
    rcases h with h | ⟨b, off, h, _⟩
    · exact h
    · cases h
  have hl := flatZ_len (ks.map kc) (mapLenK hok)
  rw [h0, List.length_map] at hl
  have : ks.length = 0 := by
    rcases Nat.mul_eq_zero.1 hl.symm with h | h
    · exact h
    · omega
  exact List.eq_nil_of_length_eq_zero this
theorem eqlNilK : ∀ (w : World) (a : Option Addr) (n c n' c' : Nat), (binOp .eql 22 (.slice a n c) (.slice none n' c')).run Try.prog w = .ok (.bool a.isNone) w := fun w a n c n' c' => Lib.run_eql_slice_nil w _ _ a n c n' c' Try.underlying22
set_option maxHeartbeats 400000 in
theorem CloneK_any (w : World) {A : Option Addr} {c B' : Nat} {ks : List Key} (hok : ∀ k ∈ ks, kOk k) (hr : Rd w B' A (ks.map kc).flatten) (hl : ks.length ≤ 1000000) :
    Calls Try.prog 43 #[.slice A ks.length c] w fun e w' => ∃ v, e = .returned v ∧ w'.ownsRow w.heap.size 54 33 v ks.length (ks.map kc).flatten ∧ Below w.heap.size w w' := by
  have hq := eqlNilK
  cases A with
  | none =>
    have h0 := nullK hok hr
    subst h0
    go_enter Try.func43, Try.ntmps43
    go_wp2
    go_ret
    exact ⟨_, rfl, World.ownsRow_nil _ _ _ _, Below.refl _ _⟩
  | some a =>
    have hown := own_empty w 54 33
    have hlm : (ks.map kc).flatten.length = ks.length * 33 := by rw [flatZ_len _ (mapLenK hok), List.length_map]
    have h63 : 0 + ks.length ≤ maxLen := by unfold maxLen; omega
    have hby : (0 + ks.length) * 40 ≤ 140737488355328 := by omega
    have hwz : w.heap.size ≤ (w.alloc (.cells #[] 54)).heap.size := by simp
    have hr1 : Rd (w.alloc (.cells #[] 54)) B' (some a) (ks.map kc).flatten := by
      rcases hr with h | ⟨b, off, h1, h2, h3⟩
      · exact .inl h
      · refine .inr ⟨b, off, h1, h2, fun i v hv => ?_⟩
        have := h3 i v hv
        exact (World.cell?_alloc_lt w _ _ (World.block_lt_of_cell? w _ this)).trans this
    have hone := one_flat kc_one ks
    generalize (ks.map kc).flatten = fl at *
    go_enter Try.func43, Try.ntmps43
    go_wp2_with (at_builtin; refine wpList_app rfl _ _ _ rfl (.slice (some ⟨w.heap.size, 0, none⟩) 0 0) rfl _ _ _ rfl elK hown hr1 hlm hone h63 hby hwz ?_; intro v' w5 hown5 hgr5 hv5)
    have hbf : Below w.heap.size w w5 := own_below (bx_alloc (Below.refl _ _) _) hown hgr5
    go_ret
    exact ⟨v', rfl, by simpa using hown5, hbf⟩
/-- The last 32. -/
theorem lastK_any (w : World) {A : Option Addr} {c B' : Nat} {ks : List Key} (hok : ∀ k ∈ ks, kOk k) (hr : Rd w B' A (ks.map kc).flatten) (hl : ks.length ≤ 1000000) (hcc : ks.length ≤ c) (hm : c ≤ 9223372036854775807) :
    Calls Try.prog 24 #[.slice A ks.length c, .int .i64 32] w fun e w' => ∃ v, e = .returned v ∧ w'.ownsRow w.heap.size 54 33 v (last32 ks).length ((last32 ks).map kc).flatten ∧ Below w.heap.size w w' := by
  have hdok : ∀ k ∈ ks.drop (ks.length - 32), kOk k := fun k hk => hok k (List.mem_of_mem_drop hk)
  by_cases h : ks.length < 32
  · have h0 : ks.length - 32 = 0 := by omega
    rw [show last32 ks = ks by (unfold last32; rw [h0, List.drop_zero])]
    clear h0 hdok
    go_enter Try.func24, Try.ntmps24
    go_wp2_with fail
    all_goals try (exfalso; omega)
    all_goals
      refine (CloneK_any w hok hr hl).mono ?_
      rintro e w1 ⟨v, rfl, hown, hb⟩
      go_wp2
      go_ret
      exact ⟨v, rfl, hown, hb⟩
  · have he : ((ks.length : Int) - 32).toNat = ks.length - 32 := by omega
    have hd : (ks.drop (ks.length - 32)).length = ks.length - (ks.length - 32) := List.length_drop
    have hcr := fun (b off : Nat) (hA : A = some ⟨b, off, none⟩) => rd_dropZ (z := 33) (hA ▸ hr) (mapLenK hok) (ks.length - 32)
    go_enter Try.func24, Try.ntmps24
    go_wp2_with fail
    all_goals try (exfalso; omega)
    all_goals try (exfalso; rename_i h1 h2; rw [if_neg (by omega)] at h1; omega)
    rw [← hd]
    have hAs : ∃ b off, A = some ⟨b, off, none⟩ := by
      rcases hr with h | ⟨b, off, h, _⟩
      · exfalso
        have hl := flatZ_len (ks.map kc) (mapLenK hok)
        rw [h, List.length_map] at hl
        rcases Nat.mul_eq_zero.1 hl.symm with h | h <;> omega
      · exact ⟨b, off, h⟩
    obtain ⟨b, off, rfl⟩ := hAs
    have hcr := hcr b off rfl
    rw [← List.map_drop] at hcr
    simp only [Option.map_some, add_off]
    refine (CloneK_any w hdok hcr (by rw [hd]; omega)).mono ?_
    rintro e w1 ⟨v, rfl, hown, hb⟩
    go_wp2
    go_ret
    exact ⟨v, rfl, hown, hb⟩
theorem nullH {w : World} {B : Nat} {ks : List (List UInt8)} (hok : ∀ k ∈ ks, hOk k) (h : Rd w B none (ks.map hc).flatten) : ks = [] := by
  have h0 : (ks.map hc).flatten = [] := by
    rcases h with h | ⟨b, off, h, _⟩
    · exact h
    · cases h
  have hl := flatZ_len (ks.map hc) (mapLenH hok)
  rw [h0, List.length_map] at hl
  have : ks.length = 0 := by
    rcases Nat.mul_eq_zero.1 hl.symm with h | h
    · exact h
    · omega
  exact List.eq_nil_of_length_eq_zero this
theorem eqlNilH : ∀ (w : World) (a : Option Addr) (n c n' c' : Nat), (binOp .eql 23 (.slice a n c) (.slice none n' c')).run Try.prog w = .ok (.bool a.isNone) w := fun w a n c n' c' => Lib.run_eql_slice_nil w _ _ a n c n' c' Try.underlying23
set_option maxHeartbeats 400000 in
theorem CloneH_any (w : World) {A : Option Addr} {c B' : Nat} {ks : List (List UInt8)} (hok : ∀ k ∈ ks, hOk k) (hr : Rd w B' A (ks.map hc).flatten) (hl : ks.length ≤ 1000000) :
    Calls Try.prog 44 #[.slice A ks.length c] w fun e w' => ∃ v, e = .returned v ∧ w'.ownsRow w.heap.size 52 32 v ks.length (ks.map hc).flatten ∧ Below w.heap.size w w' := by
  have hq := eqlNilH
  cases A with
  | none =>
    have h0 := nullH hok hr
    subst h0
    go_enter Try.func44, Try.ntmps44
    go_wp2
    go_ret
    exact ⟨_, rfl, World.ownsRow_nil _ _ _ _, Below.refl _ _⟩
  | some a =>
    have hown := own_empty w 52 32
    have hlm : (ks.map hc).flatten.length = ks.length * 32 := by rw [flatZ_len _ (mapLenH hok), List.length_map]
    have h63 : 0 + ks.length ≤ maxLen := by unfold maxLen; omega
    have hby : (0 + ks.length) * 32 ≤ 140737488355328 := by omega
    have hwz : w.heap.size ≤ (w.alloc (.cells #[] 52)).heap.size := by simp
    have hr1 : Rd (w.alloc (.cells #[] 52)) B' (some a) (ks.map hc).flatten := by
      rcases hr with h | ⟨b, off, h1, h2, h3⟩
      · exact .inl h
      · refine .inr ⟨b, off, h1, h2, fun i v hv => ?_⟩
        have := h3 i v hv
        exact (World.cell?_alloc_lt w _ _ (World.block_lt_of_cell? w _ this)).trans this
    have hone := one_flat hc_one ks
    generalize (ks.map hc).flatten = fl at *
    go_enter Try.func44, Try.ntmps44
    go_wp2_with (at_builtin; refine wpList_app rfl _ _ _ rfl (.slice (some ⟨w.heap.size, 0, none⟩) 0 0) rfl _ _ _ rfl elH hown hr1 hlm hone h63 hby hwz ?_; intro v' w5 hown5 hgr5 hv5)
    have hbf : Below w.heap.size w w5 := own_below (bx_alloc (Below.refl _ _) _) hown hgr5
    go_ret
    exact ⟨v', rfl, by simpa using hown5, hbf⟩
/-- The last 32. -/
theorem lastH_any (w : World) {A : Option Addr} {c B' : Nat} {ks : List (List UInt8)} (hok : ∀ k ∈ ks, hOk k) (hr : Rd w B' A (ks.map hc).flatten) (hl : ks.length ≤ 1000000) (hcc : ks.length ≤ c) (hm : c ≤ 9223372036854775807) :
    Calls Try.prog 25 #[.slice A ks.length c, .int .i64 32] w fun e w' => ∃ v, e = .returned v ∧ w'.ownsRow w.heap.size 52 32 v (last32 ks).length ((last32 ks).map hc).flatten ∧ Below w.heap.size w w' := by
  have hdok : ∀ k ∈ ks.drop (ks.length - 32), hOk k := fun k hk => hok k (List.mem_of_mem_drop hk)
  by_cases h : ks.length < 32
  · have h0 : ks.length - 32 = 0 := by omega
    rw [show last32 ks = ks by (unfold last32; rw [h0, List.drop_zero])]
    clear h0 hdok
    go_enter Try.func25, Try.ntmps25
    go_wp2_with fail
    all_goals try (exfalso; omega)
    all_goals
      refine (CloneH_any w hok hr hl).mono ?_
      rintro e w1 ⟨v, rfl, hown, hb⟩
      go_wp2
      go_ret
      exact ⟨v, rfl, hown, hb⟩
  · have he : ((ks.length : Int) - 32).toNat = ks.length - 32 := by omega
    have hd : (ks.drop (ks.length - 32)).length = ks.length - (ks.length - 32) := List.length_drop
    have hcr := fun (b off : Nat) (hA : A = some ⟨b, off, none⟩) => rd_dropZ (z := 32) (hA ▸ hr) (mapLenH hok) (ks.length - 32)
    go_enter Try.func25, Try.ntmps25
    go_wp2_with fail
    all_goals try (exfalso; omega)
    all_goals try (exfalso; rename_i h1 h2; rw [if_neg (by omega)] at h1; omega)
    rw [← hd]
    have hAs : ∃ b off, A = some ⟨b, off, none⟩ := by
      rcases hr with h | ⟨b, off, h, _⟩
      · exfalso
        have hl := flatZ_len (ks.map hc) (mapLenH hok)
        rw [h, List.length_map] at hl
        rcases Nat.mul_eq_zero.1 hl.symm with h | h <;> omega
      · exact ⟨b, off, h⟩
    obtain ⟨b, off, rfl⟩ := hAs
    have hcr := hcr b off rfl
    rw [← List.map_drop] at hcr
    simp only [Option.map_some, add_off]
    refine (CloneH_any w hdok hcr (by rw [hd]; omega)).mono ?_
    rintro e w1 ⟨v, rfl, hown, hb⟩
    go_wp2
    go_ret
    exact ⟨v, rfl, hown, hb⟩
end Go.Proofs.Ythbmmilefimpaaa
