
/- What is wanted, lacked, missed; the digest of rows. -/
import Derived.Test.YthbmmilefimpaaaDigE
namespace Go.Proofs.Ythbmmilefimpaaa
open Go.RowKit Go.Maps
set_option linter.unusedVariables false
theorem own_put {w w1 : World} {base e size n g t : Nat} {v : Value} {xs : List Value} {cs cs' : Array Value} (h : w.ownsRow base e size v n xs) (hb : Blk w g t cs) (hp : Put w w1 g t cs') (ht : t ≠ e) : w1.ownsRow base e size v n xs := by
  refine ⟨h.1, h.2.imp id ?_⟩
  rintro ⟨g', cap, cur, rfl, h2, h3, h4⟩
  refine ⟨g', cap, cur, rfl, h2, (hp.oth g' ?_).trans h3, h4⟩
  rintro rfl
  unfold Blk at hb
  rw [hb] at h3
  injection h3 with h3
  injection h3 with _ h3
  exact ht h3
theorem aggD {a b : Value} : AggT Try.prog 26 [a, b].length := aggT_of Try.underlying26 rfl (by kernel_rfl)
theorem aggD2 {a b : Value} : AggT Try.prog 26 #[a, b].size := aggT_of Try.underlying26 rfl (by kernel_rfl)
theorem oneD {A B : Option Addr} {n m : Nat} (c d : Nat) : ∀ u ∈ (#[Value.slice A n c, Value.slice B m d] : Array Value).toList, u.oneCell' = true := by
  intro u hu
  simp at hu
  rcases hu with rfl | rfl <;> rfl
section
variable (w : World) {A1 A2 A3 : Option Addr} {c1 c2 c3 n3 : Nat}
theorem Wants_any {l other : List Key} (hok1 : ∀ k ∈ l, kOk k) (hok2 : ∀ k ∈ other, kOk k) (hr1 : Rd w w.heap.size A1 (l.map kc).flatten) (hr2 : Rd w w.heap.size A2 (other.map kc).flatten) (hl1 : l.length ≤ 100000) (hl2 : other.length ≤ 100000) :
    Calls Try.prog 14 #[.slice A2 other.length c2, .agg #[.slice A1 l.length c1, .slice A3 n3 c3]] w fun e w' => ∃ v, e = .returned v ∧ w'.ownsRow w.heap.size 54 33 v (nots l other).length ((nots l other).map kc).flatten ∧ Below w.heap.size w w' := by
  have HR1 := hid hr1
  have HR2 := hid hr2
  clear hr1 hr2
  go_enter Try.func14, Try.ntmps14
  go_wp2_with fail
  have hb1 : Below w.heap.size w (w.alloc (.cells #[.slice A1 l.length c1, .slice A3 n3 c3] 26)) := bx_alloc (Below.refl _ _) _
  generalize w.alloc (.cells #[.slice A1 l.length c1, .slice A3 n3 c3] 26) = w1 at *
  refine (withoutK_any w1 hok1 hok2 ((HR1.out.below hb1).more hb1.size) ((HR2.out.below hb1).more hb1.size) hl1 hl2).mono ?_
  rintro e w2 ⟨v, rfl, hown, hb2⟩
  go_wp2
  go_ret
  exact ⟨v, rfl, own_more hown hb1.size, bx_trans hb1 hb2⟩
theorem Lacks_any {l other : List Key} (hok1 : ∀ k ∈ l, kOk k) (hok2 : ∀ k ∈ other, kOk k) (hr1 : Rd w w.heap.size A1 (l.map kc).flatten) (hr2 : Rd w w.heap.size A2 (other.map kc).flatten) (hl1 : l.length ≤ 100000) (hl2 : other.length ≤ 100000) :
    Calls Try.prog 16 #[.slice A1 l.length c1, .agg #[.slice A2 other.length c2, .slice A3 n3 c3]] w fun e w' => ∃ v, e = .returned v ∧ w'.ownsRow w.heap.size 54 33 v (nots l other).length ((nots l other).map kc).flatten ∧ Below w.heap.size w w' := by
  have HR1 := hid hr1
  have HR2 := hid hr2
  clear hr1 hr2
  go_enter Try.func16, Try.ntmps16
  go_wp2_with fail
  have hb1 : Below w.heap.size w (w.alloc (.cells #[.slice A2 other.length c2, .slice A3 n3 c3] 26)) := bx_alloc (Below.refl _ _) _
  generalize w.alloc (.cells #[.slice A2 other.length c2, .slice A3 n3 c3] 26) = w1 at *
  refine (withoutK_any w1 hok1 hok2 ((HR1.out.below hb1).more hb1.size) ((HR2.out.below hb1).more hb1.size) hl1 hl2).mono ?_
  rintro e w2 ⟨v, rfl, hown, hb2⟩
  go_wp2
  go_ret
  exact ⟨v, rfl, own_more hown hb1.size, bx_trans hb1 hb2⟩
theorem Misses_any {l other : List (List UInt8)} (hok1 : ∀ k ∈ l, hOk k) (hok2 : ∀ k ∈ other, hOk k) (hr1 : Rd w w.heap.size A1 (l.map hc).flatten) (hr2 : Rd w w.heap.size A2 (other.map hc).flatten) (hl1 : l.length ≤ 100000) (hl2 : other.length ≤ 100000) :
    Calls Try.prog 17 #[.slice A1 l.length c1, .agg #[.slice A3 n3 c3, .slice A2 other.length c2]] w fun e w' => ∃ v, e = .returned v ∧ w'.ownsRow w.heap.size 52 32 v (nots l other).length ((nots l other).map hc).flatten ∧ Below w.heap.size w w' := by
  have HR1 := hid hr1
  have HR2 := hid hr2
  clear hr1 hr2
  go_enter Try.func17, Try.ntmps17
  go_wp2_with fail
  have hb1 : Below w.heap.size w (w.alloc (.cells #[.slice A3 n3 c3, .slice A2 other.length c2] 26)) := bx_alloc (Below.refl _ _) _
  generalize w.alloc (.cells #[.slice A3 n3 c3, .slice A2 other.length c2] 26) = w1 at *
  refine (withoutH_any w1 hok1 hok2 ((HR1.out.below hb1).more hb1.size) ((HR2.out.below hb1).more hb1.size) hl1 hl2).mono ?_
  rintro e w2 ⟨v, rfl, hown, hb2⟩
  go_wp2
  go_ret
  exact ⟨v, rfl, own_more hown hb1.size, bx_trans hb1 hb2⟩
set_option maxHeartbeats 400000 in
theorem Make_any {keys : List Key} {fr : List (List UInt8)} (hok1 : ∀ k ∈ keys, kOk k) (hok2 : ∀ k ∈ fr, hOk k) (hr1 : Rd w w.heap.size A1 (keys.map kc).flatten) (hr2 : Rd w w.heap.size A2 (fr.map hc).flatten) (hl1 : keys.length ≤ 1000000) (hl2 : fr.length ≤ 1000000)
    (hc1 : keys.length ≤ c1) (hm1 : c1 ≤ 9223372036854775807) (hc2 : fr.length ≤ c2) (hm2 : c2 ≤ 9223372036854775807) :
    Calls Try.prog 10 #[.slice A1 keys.length c1, .slice A2 fr.length c2] w fun e w' => ∃ v u, e = .returned (.agg #[v, u]) ∧ w'.ownsRow w.heap.size 54 33 v (last32 keys).length ((last32 keys).map kc).flatten ∧ w'.ownsRow w.heap.size 52 32 u (last32 fr).length ((last32 fr).map hc).flatten ∧ Below w.heap.size w w' := by
  have HR1 := hid hr1
  have HR2 := hid hr2
  clear hr1 hr2
  go_enter Try.func10, Try.ntmps10
  go_wp2_with fail
  have hg := Blk.new w 26 #[.slice none 0 0, .slice none 0 0]
  have hb1 : Below w.heap.size w (w.alloc (.cells #[.slice none 0 0, .slice none 0 0] 26)) := bx_alloc (Below.refl _ _) _
  obtain ⟨g, hgd⟩ : ∃ g, g = w.heap.size := ⟨_, rfl⟩
  have hgw : w.heap.size ≤ g := by omega
  rw [← hgd] at hg
  rw [← hgd]
  clear hgd
  generalize w.alloc (.cells #[.slice none 0 0, .slice none 0 0] 26) = w1 at *
  refine (lastK_any w1 hok1 ((HR1.out.below hb1).more hb1.size) hl1 hc1 hm1).mono ?_
  rintro e w2 ⟨v, rfl, hown, hb2⟩
  obtain ⟨A3, c3, rfl, _, _, _⟩ := own_form hown
  have hb02 := bx_trans hb1 hb2
  have hg2 := hg.below hb2 hg.lt
  have hs1 := hb1.size
  clear hg hb1
  go_wp2_with fail
  refine (lastH_any w2 hok2 ((HR2.out.below hb02).more hb02.size) hl2 hc2 hm2).mono ?_
  rintro e w3 ⟨u, rfl, hown3, hb3⟩
  obtain ⟨A4, c4, rfl, _, _, _⟩ := own_form hown3
  have hb03 := bx_trans hb02 hb3
  have hg3 := hg2.below hb3 hg2.lt
  have hown23 := own_keep hown hb3
  clear hg2 hb02
  go_wp2_with (refine wpList_store_agg rfl _ _ _ rfl _ _ rfl #[.slice A3 (last32 keys).length c3, .slice A4 (last32 fr).length c4] rfl aggD2 hg3 (Nat.le_refl 2) (oneD _ _) ?_; intro w4 hp4)
  have hb4 : Blk w4 g 26 #[.slice A3 (last32 keys).length c3, .slice A4 (last32 fr).length c4] := hp4.blk
  refine bodyPost_ret (results_agg (cs := [.slice A3 (last32 keys).length c3, .slice A4 (last32 fr).length c4]) rfl rfl aggD (blk_cells hb4)) rfl ?_
  exact ⟨.slice A3 (last32 keys).length c3, .slice A4 (last32 fr).length c4, rfl, own_more (own_put hown23 hg3 hp4 (by decide)) hs1, own_more (own_put hown3 hg3 hp4 (by decide)) (by have := hb2.size; omega), bx_put hb03 hp4 hgw⟩
end
end Go.Proofs.Ythbmmilefimpaaa
