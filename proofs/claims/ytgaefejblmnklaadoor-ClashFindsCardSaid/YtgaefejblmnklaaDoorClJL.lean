
/- Clashes: Paths walked. Clashes: what a proof hashes, plain; two hashes in one array. Clashes: chained walked, of no proof. -/
import Derived.Test.YtgaefejblmnklaaDoorClGI
namespace Go.Proofs.YtgaefejblmnklaaDoor
section
open Go.RowKit
set_option linter.unusedVariables false
theorem own_less {w : World} {B B' e size n : Nat} {v : Value} {xs : List Value} (h : w.ownsRow B e size v n xs) (hB : B' ≤ B) : w.ownsRow B' e size v n xs := by
  refine ⟨h.1, h.2.imp id ?_⟩
  rintro ⟨g, cap, cur, h1, h2, h3⟩
  exact ⟨g, cap, cur, h1, by omega, h3⟩
theorem Owns.less {w : World} {B B' : Nat} {vs : List Value} {rs : List (List UInt8)} (h : Owns w B vs rs) (hB : B' ≤ B) : Owns w B' vs rs := fun k v l h1 h2 => (h k v l h1 h2).more hB
/-- What two rows of rows show. -/
def Shows (w : World) (go : Prop) (l m : List (List UInt8)) (e : Ending) (w' : World) : Prop :=
  Below w.heap.size w w' ∧
  (((¬ go ∨ l = m) ∧ e = .returned (.tuple #[.agg #[nilC, nilC], .bool false])) ∨
   (go ∧ ∃ k va vb, k < l.length ∧ l.getD k [] ≠ m.getD k [] ∧ (∀ j, k < j → j < l.length → l.getD j [] = m.getD j []) ∧ OwnB w' w.heap.size va (l.getD k []) ∧ OwnB w' w.heap.size vb (m.getD k []) ∧ e = .returned (.tuple #[.agg #[va, vb], .bool true])))
theorem Owns.getD {w : World} {B : Nat} {vs : List Value} {rs : List (List UInt8)} (h : Owns w B vs rs) (hl : vs.length = rs.length) {k : Nat} (hk : k < rs.length) : OwnB w B (vs.getD k undef) (rs.getD k []) := by
  have hk2 : k < vs.length := by omega
  rw [show vs.getD k undef = vs[k] by simp [List.getD, hk2], show rs.getD k [] = rs[k] by simp [List.getD, hk]]
  exact h k _ _ (List.getElem?_eq_getElem hk2) (List.getElem?_eq_getElem hk)
theorem rowsR_len {wide : Int} {size i : Nat} {en : List UInt8} {path : List (List UInt8)} (h : rowsE size i path.length = 0) : (rowsR wide size i en path).length = (flg size i).length + 1 := by
  unfold rowsR
  rw [if_pos h]
  have hf := (rowsE_ok h).2
  rw [← rowsTo_all hf, rowsTo_len hf _ (Nat.le_refl _), hf]
theorem bltClN : Tryd.prog.built tCl [] = some #[nilC, nilC] := by kernel_rfl
theorem neq_i64 (a : Int) : True := trivial
/-- highest of two rows of one length, at least one row. -/
theorem highest_shows (w0 w : World) (hb : Below w0.heap.size w0 w) {go : Prop} (hgo : go) {l m : List (List UInt8)} {vo uo : Value} {vs us : List Value} (hlm : l.length = m.length) (h1 : 1 ≤ l.length) (hM : l.length ≤ 100000)
    (ho1 : w.ownsRow w0.heap.size tBy 1 vo l.length vs) (ho2 : w.ownsRow w0.heap.size tBy 1 uo m.length us) (hr1 : Owns w w0.heap.size vs l) (hr2 : Owns w w0.heap.size us m) :
    Calls Tryd.prog 20 #[vo, uo] w fun e w' => Below w.heap.size w w' ∧ ∃ va vb bo, e = .returned (.tuple #[.agg #[va, vb], .bool bo]) ∧ va.oneCell' = true ∧ vb.oneCell' = true ∧
      ((bo = false ∧ va = nilC ∧ vb = nilC ∧ l = m) ∨ (bo = true ∧ ∃ k, k < l.length ∧ l.getD k [] ≠ m.getD k [] ∧ (∀ j, k < j → j < l.length → l.getD j [] = m.getD j []) ∧ OwnB w' w0.heap.size va (l.getD k []) ∧ OwnB w' w0.heap.size vb (m.getD k []))) := by
  have e1 : vs.length = l.length := by have := ho1.1; omega
  have e2 : us.length = m.length := by have := ho2.1; omega
  obtain ⟨g1, c1, rfl, _⟩ := own_block ho1 (by omega)
  obtain ⟨g2, c2, rfl, _⟩ := own_block ho2 (by omega)
  rw [← hlm] at ho2 ⊢
  refine (highest_some w rfl hlm.symm h1 hM ho1 ho2 hr1 hr2).mono ?_
  rintro e w' ⟨hb', h⟩
  refine ⟨hb', ?_⟩
  rcases h with ⟨h2, rfl⟩ | ⟨k, h2, h3, h4, rfl⟩
  · exact ⟨_, _, _, rfl, rfl, rfl, .inl ⟨rfl, rfl, rfl, h2⟩⟩
  · have p1 := hr1.getD e1 h2
    have p2 := hr2.getD e2 (k := k) (by omega)
    obtain ⟨A1, q1, f1, _⟩ := own_form p1
    obtain ⟨A2, q2, f2, _⟩ := own_form p2
    exact ⟨_, _, _, rfl, by rw [f1]; rfl, by rw [f2]; rfl, .inr ⟨rfl, k, h2, h3, h4, p1.below hb', p2.below hb'⟩⟩
theorem aggCl2 (a b : Value) : AggT Tryd.prog tCl (#[a, b] : Array Value).size := aggCl a b
set_option maxRecDepth 100000 in
set_option maxHeartbeats 1000000 in
theorem Paths_any (w : World) (hL : Laid w) (wide : Int) {size i : Nat} (hsz : size < 18446744073709551616)
    {Aa : Option Addr} {ca : Nat} {a : List UInt8} (hra : Rd w w.heap.size Aa (a.map cb)) (hca : a.length ≤ ca) (hla : a.length ≤ 100000000)
    {Ab : Option Addr} {cc : Nat} {b : List UInt8} (hrb : Rd w w.heap.size Ab (b.map cb)) (hcb : b.length ≤ cc) (hlb : b.length ≤ 100000000)
    {Ap : Option Addr} {cp p : Nat} {P : List (List UInt8)} (hpl : P.length = p) (h32 : ∀ x ∈ P, x.length = 32) (hrp : Rd w w.heap.size Ap (P.flatten.map cb)) (hp : p ≤ 1000)
    {Aq : Option Addr} {cq q : Nat} {Q : List (List UInt8)} (hql : Q.length = q) (h32' : ∀ x ∈ Q, x.length = 32) (hrq : Rd w w.heap.size Aq (Q.flatten.map cb)) (hq : q ≤ 1000) :
    Calls Tryd.prog 11 #[.int .i64 wide, .int .u64 (size : Int), .int .u64 (i : Int), .slice Aa a.length ca, .slice Ab b.length cc, .slice Ap p cp, .slice Aq q cq] w
      (Shows w (a ≠ b ∧ rowsE size i p = 0 ∧ rowsE size i q = 0 ∧ rowsH wide size i a P = rowsH wide size i b Q) (rowsR wide size i a P) (rowsR wide size i b Q)) := by
  have HR1 := hid (fun (w' : World) (hb : Below w.heap.size w w') => rows_any w' (hL.below hb) wide (i := i) hsz ((hra.below hb).more hb.size) hca hla (c := cp) hpl h32 ((hrp.below hb).more hb.size) hp)
  have HR2 := hid (fun (w' : World) (hb : Below w.heap.size w w') => rows_any w' (hL.below hb) wide (i := i) hsz ((hrb.below hb).more hb.size) hcb hlb (c := cq) hql h32' ((hrq.below hb).more hb.size) hq)
  have HEQ := hid (fun (w' : World) (hb : Below w.heap.size w w') => Equal_any w' (c := ca) (c' := cc) (hra.below hb) (hrb.below hb))
  have hX := rowsH_len wide size i a P
  have hY := rowsH_len wide size i b Q
  have HL1 := hid (fun h => @rowsR_len wide size i a P h)
  have HL2 := hid (fun h => @rowsR_len wide size i b Q h)
  have HLE := hid (fun (h : rowsE size i p = 0) => flg_len 64 size i (by omega))
  rw [hpl] at HL1
  rw [hql] at HL2
  obtain ⟨X, hXe⟩ : ∃ X, X = rowsH wide size i a P := ⟨_, rfl⟩
  obtain ⟨Y, hYe⟩ : ∃ Y, Y = rowsH wide size i b Q := ⟨_, rfl⟩
  obtain ⟨E, hE⟩ : ∃ E, E = rowsE size i p := ⟨_, rfl⟩
  obtain ⟨F, hF⟩ : ∃ F, F = rowsE size i q := ⟨_, rfl⟩
  obtain ⟨R, hR⟩ : ∃ R, R = rowsR wide size i a P := ⟨_, rfl⟩
  obtain ⟨S, hS⟩ : ∃ S, S = rowsR wide size i b Q := ⟨_, rfl⟩
  rw [← hXe] at hX HR1 ⊢
  rw [← hYe] at hY HR2 ⊢
  rw [← hE] at HR1 HL1 HLE ⊢
  rw [← hF] at HR2 HL2 ⊢
  rw [← hR] at HR1 HL1 ⊢
  rw [← hS] at HR2 HL2 ⊢
  generalize flg size i = D at *
  obtain ⟨G, hG⟩ : ∃ G : Prop, G = (a ≠ b ∧ E = 0 ∧ F = 0 ∧ X = Y) := ⟨_, rfl⟩
  rw [← hG]
  have HG := hid hG
  clear hG
  clear hXe hYe hE hF hR hS hL hra hrb hrp hrq hpl hql h32 h32'
  go_enter Tryd.func11, Tryd.ntmps11
  go_wp2_with (first
    | ((with_reducible refine wpAtC ?_); refine wpList_alloc (w := w) rfl _ rfl zeroCl ?_; intro g4 w4 hg4 hg4' hz4 hb4; simp only [Act.put, List.setIfInBounds_toArray, List.set_cons_succ, List.set_cons_zero]))
  refine (HR1.out w4 hb4).mono ?_
  rintro e w5 ⟨vo, vs, rfl, hown1, hows1, hb5⟩
  have hb05 := bx_trans hb4 hb5
  have hz5 := hz4.below hb5 hg4'
  obtain ⟨A1, c1, ev1, _⟩ := own_form hown1
  have hown1 := own_less hown1 hb4.size
  have hows1 := hows1.less hb4.size
  rw [ev1] at hown1 ⊢
  clear hz4 hb4 hb5 ev1
  go_wp2_with (first
    | ((with_reducible refine wpAtC ?_); refine wpList_alloc (w := w5) rfl _ rfl zeroH ?_; intro g6 w6 hg6 hg6' hz6 hb6; simp only [Act.put, List.setIfInBounds_toArray, List.set_cons_succ, List.set_cons_zero])
    | ((with_reducible refine wpAtC ?_); refine wpList_store_agg rfl _ _ _ rfl _ _ rfl (X.map cb).toArray rfl (aggHS hX) hz6 (szH hX) (one_cbA _) ?_; intro w7 hp7; simp only [Act.put]; rw [splH hX] at hp7))
  have hb57 := bx_put hb6 hp7 hg6
  have hb07 := bx_trans hb05 hb57
  have hz7 := hz5.below hb57 hz5.lt
  have hown7 := own_keep hown1 hb57
  have hows7 := hows1.below hb57
  have hx7 := hp7.blk
  clear hown1 hows1 hz5 hb6 hz6 hp7 hb57 hb05
  refine (HR2.out w7 hb07).mono ?_
  rintro e w8 ⟨uo, us, rfl, hown2, hows2, hb8⟩
  have hb08 := bx_trans hb07 hb8
  have hz8 := hz7.below hb8 hz7.lt
  have hx8 := hx7.below hb8 hx7.lt
  obtain ⟨A2, c2, ev2, _⟩ := own_form hown2
  have hown2 := own_less hown2 hb07.size
  have hows2 := hows2.less hb07.size
  have hown8 := own_keep hown7 hb8
  have hows8 := hows7.below hb8
  rw [ev2] at hown2 ⊢
  clear hz7 hx7 hown7 hows7 hb8 ev2
  go_wp2_with (first
    | ((with_reducible refine wpAtC ?_); refine wpList_alloc (w := w8) rfl _ rfl zeroH ?_; intro g9 w9 hg9 hg9' hz9 hb9; simp only [Act.put, List.setIfInBounds_toArray, List.set_cons_succ, List.set_cons_zero])
    | ((with_reducible refine wpAtC ?_); refine wpList_store_agg rfl _ _ _ rfl _ _ rfl (Y.map cb).toArray rfl (aggHS hY) hz9 (szH hY) (one_cbA _) ?_; intro w10 hp10; simp only [Act.put]; rw [splH hY] at hp10))
  have hb810 := bx_put hb9 hp10 hg9
  have hb10 := bx_trans hb08 hb810
  have hz10 := hz8.below hb810 hz8.lt
  have hx10 := hx8.below hb810 hx8.lt
  have hy10 := hp10.blk
  have HO1 := hid (own_keep hown8 hb810)
  have HW1 := hid (hows8.below hb810)
  have HO2 := hid (own_keep hown2 hb810)
  have HW2 := hid (hows2.below hb810)
  have hg6b := hx10.lt
  have ne4 : w.heap.size ≤ g4 := hg4
  clear hown8 hows8 hown2 hows2 hz8 hx8 hb9 hz9 hp10 hb810 hb08 hb07 hg9 hg9' hg6 hg6' hg4 hg4'
  refine (HEQ.out w10 hb10).mono ?_
  rintro e w11 ⟨rfl, hb11⟩
  have hb011 := bx_trans hb10 hb11
  have hz11 := hz10.below hb11 hz10.lt
  have hcx := blk_cells (hx10.below hb11 hx10.lt)
  have hcy := blk_cells (hy10.below hb11 hy10.lt)
  have hax := aggHL hX
  have hay := aggHL hY
  have heq := eq_hash X Y hX hY
  clear hx10 hy10 hz10
  by_cases hab : a = b
  · rw [show (a == b) = true by simpa using hab]
    have HAB := hid hab
    clear hab heq
    go_wp2_with (first
      | ((with_reducible refine wpAtC ?_); refine wpList_loadG rfl _ _ rfl _ _ rfl (X.map cb) hax hcx ?_; simp only [Act.put, List.setIfInBounds_toArray, List.set_cons_succ, List.set_cons_zero])
      | ((with_reducible refine wpAtC ?_); refine wpList_loadG rfl _ _ rfl _ _ rfl (Y.map cb) hay hcy ?_; simp only [Act.put, List.setIfInBounds_toArray, List.set_cons_succ, List.set_cons_zero])
      | ((with_reducible refine wpAtC ?_); refine wpList_gives rfl (gives_build (S := fun v w' => v = .agg #[nilC, nilC] ∧ w' = _) tCl #[] rfl [] (by simp) bltClN ⟨rfl, rfl⟩) ?_; rintro v12 w12 ⟨rfl, rfl⟩; simp only [Act.put, List.setIfInBounds_toArray, List.set_cons_succ, List.set_cons_zero])
      | ((with_reducible refine wpAtC ?_); refine wpList_store_agg rfl _ _ _ rfl _ _ rfl #[nilC, nilC] rfl (aggCl _ _) hz11 (Nat.le_refl _) (by intro v hv; simp at hv; rcases hv with rfl | rfl <;> rfl) ?_; intro w13 hp13; simp only [Act.put]))
    exact bodyPost_ret (results_h2 (cs := [nilC, nilC]) rfl rfl (aggCl _ _) (blk_cells hp13.blk)) rfl ⟨bx_put hb011 hp13 ne4, .inl ⟨.inl (by rw [HG.out]; rintro ⟨k1, k2, k3, k4⟩; exact k1 HAB.out), rfl⟩⟩
  rw [show (a == b) = false by simpa using hab]
  have HAB := hid hab
  clear hab
  by_cases hE : E = 0
  rotate_left
  · have HE := hid hE
    have hE2 : (E == 0) = false := by simpa using hE
    clear heq
    go_wp2_with (first
      | ((with_reducible refine wpAtC ?_); refine wpList_loadG rfl _ _ rfl _ _ rfl (X.map cb) hax hcx ?_; simp only [Act.put, List.setIfInBounds_toArray, List.set_cons_succ, List.set_cons_zero])
      | ((with_reducible refine wpAtC ?_); refine wpList_loadG rfl _ _ rfl _ _ rfl (Y.map cb) hay hcy ?_; simp only [Act.put, List.setIfInBounds_toArray, List.set_cons_succ, List.set_cons_zero])
      | ((with_reducible refine wpAtC ?_); refine wpList_gives rfl (gives_build (S := fun v w' => v = .agg #[nilC, nilC] ∧ w' = _) tCl #[] rfl [] (by simp) bltClN ⟨rfl, rfl⟩) ?_; rintro v12 w12 ⟨rfl, rfl⟩; simp only [Act.put, List.setIfInBounds_toArray, List.set_cons_succ, List.set_cons_zero])
      | ((with_reducible refine wpAtC ?_); refine wpList_store_agg rfl _ _ _ rfl _ _ rfl #[nilC, nilC] rfl (aggCl _ _) hz11 (Nat.le_refl _) (by intro v hv; simp at hv; rcases hv with rfl | rfl <;> rfl) ?_; intro w13 hp13; simp only [Act.put]))
    exact bodyPost_ret (results_h2 (cs := [nilC, nilC]) rfl rfl (aggCl _ _) (blk_cells hp13.blk)) rfl ⟨bx_put hb011 hp13 ne4, .inl ⟨.inl (by rw [HG.out]; rintro ⟨k1, k2, k3, k4⟩; exact HE.out k2), rfl⟩⟩
  subst hE
  by_cases hF : F = 0
  rotate_left
  · have HF := hid hF
    have hF2 : (F == 0) = false := by simpa using hF
    clear heq
    go_wp2_with (first
      | ((with_reducible refine wpAtC ?_); refine wpList_loadG rfl _ _ rfl _ _ rfl (X.map cb) hax hcx ?_; simp only [Act.put, List.setIfInBounds_toArray, List.set_cons_succ, List.set_cons_zero])
      | ((with_reducible refine wpAtC ?_); refine wpList_loadG rfl _ _ rfl _ _ rfl (Y.map cb) hay hcy ?_; simp only [Act.put, List.setIfInBounds_toArray, List.set_cons_succ, List.set_cons_zero])
      | ((with_reducible refine wpAtC ?_); refine wpList_gives rfl (gives_build (S := fun v w' => v = .agg #[nilC, nilC] ∧ w' = _) tCl #[] rfl [] (by simp) bltClN ⟨rfl, rfl⟩) ?_; rintro v12 w12 ⟨rfl, rfl⟩; simp only [Act.put, List.setIfInBounds_toArray, List.set_cons_succ, List.set_cons_zero])
      | ((with_reducible refine wpAtC ?_); refine wpList_store_agg rfl _ _ _ rfl _ _ rfl #[nilC, nilC] rfl (aggCl _ _) hz11 (Nat.le_refl _) (by intro v hv; simp at hv; rcases hv with rfl | rfl <;> rfl) ?_; intro w13 hp13; simp only [Act.put]))
    exact bodyPost_ret (results_h2 (cs := [nilC, nilC]) rfl rfl (aggCl _ _) (blk_cells hp13.blk)) rfl ⟨bx_put hb011 hp13 ne4, .inl ⟨.inl (by rw [HG.out]; rintro ⟨k1, k2, k3, k4⟩; exact HF.out k3), rfl⟩⟩
  subst hF
  by_cases hXY : X = Y
  rotate_left
  · have HXY := hid hXY
    rw [show (X == Y) = false by simpa using hXY] at heq
    clear hXY
    go_wp2_with (first
      | ((with_reducible refine wpAtC ?_); refine wpList_loadG rfl _ _ rfl _ _ rfl (X.map cb) hax hcx ?_; simp only [Act.put, List.setIfInBounds_toArray, List.set_cons_succ, List.set_cons_zero])
      | ((with_reducible refine wpAtC ?_); refine wpList_loadG rfl _ _ rfl _ _ rfl (Y.map cb) hay hcy ?_; simp only [Act.put, List.setIfInBounds_toArray, List.set_cons_succ, List.set_cons_zero])
      | ((with_reducible refine wpAtC ?_); refine wpList_gives rfl (gives_build (S := fun v w' => v = .agg #[nilC, nilC] ∧ w' = _) tCl #[] rfl [] (by simp) bltClN ⟨rfl, rfl⟩) ?_; rintro v12 w12 ⟨rfl, rfl⟩; simp only [Act.put, List.setIfInBounds_toArray, List.set_cons_succ, List.set_cons_zero])
      | ((with_reducible refine wpAtC ?_); refine wpList_store_agg rfl _ _ _ rfl _ _ rfl #[nilC, nilC] rfl (aggCl _ _) hz11 (Nat.le_refl _) (by intro v hv; simp at hv; rcases hv with rfl | rfl <;> rfl) ?_; intro w13 hp13; simp only [Act.put]))
    exact bodyPost_ret (results_h2 (cs := [nilC, nilC]) rfl rfl (aggCl _ _) (blk_cells hp13.blk)) rfl ⟨bx_put hb011 hp13 ne4, .inl ⟨.inl (by rw [HG.out]; rintro ⟨k1, k2, k3, k4⟩; exact HXY.out k4), rfl⟩⟩
  rw [show (X == Y) = true by simpa using hXY] at heq
  have HXY := hid hXY
  clear hXY
  have hRl := HL1.out rfl
  have hSl := HL2.out rfl
  have hDl := HLE.out rfl
  have HHI := hid (highest_shows w w11 hb011 (go := G) (by rw [HG.out]; exact ⟨HAB.out, by simp, by simp, HXY.out⟩) (hRl.trans hSl.symm) (by omega) (by omega) (own_keep HO1.out hb11) (own_keep HO2.out hb11) (HW1.out.below hb11) (HW2.out.below hb11))
  clear hRl hSl hDl
  go_wp2_with (first
    | ((with_reducible refine wpAtC ?_); refine wpList_loadG rfl _ _ rfl _ _ rfl (X.map cb) hax hcx ?_; simp only [Act.put, List.setIfInBounds_toArray, List.set_cons_succ, List.set_cons_zero])
    | ((with_reducible refine wpAtC ?_); refine wpList_loadG rfl _ _ rfl _ _ rfl (Y.map cb) hay hcy ?_; simp only [Act.put, List.setIfInBounds_toArray, List.set_cons_succ, List.set_cons_zero])
    | ((with_reducible refine wpAtC ?_); refine wpList_gives rfl (gives_build (S := fun v w' => v = .agg #[nilC, nilC] ∧ w' = _) tCl #[] rfl [] (by simp) bltClN ⟨rfl, rfl⟩) ?_; rintro v12 w12 ⟨rfl, rfl⟩; simp only [Act.put, List.setIfInBounds_toArray, List.set_cons_succ, List.set_cons_zero])
    | ((with_reducible refine wpAtC ?_); refine wpList_store_agg rfl _ _ _ rfl _ _ rfl #[nilC, nilC] rfl (aggCl _ _) hz11 (Nat.le_refl _) (by intro v hv; simp at hv; rcases hv with rfl | rfl <;> rfl) ?_; intro w13 hp13; simp only [Act.put]))
  refine HHI.out.mono ?_
  rintro e w12 ⟨hb12, va, vb, bo, rfl, oa, ob, hbo⟩
  have hb012 := bx_trans hb011 hb12
  have hz12 := hz11.below hb12 hz11.lt
  go_wp2_with (first
    | ((with_reducible refine wpAtC ?_); refine wpList_store_agg rfl _ _ _ rfl _ _ rfl #[va, vb] rfl (aggCl va vb) hz12 (Nat.le_refl _) (by intro v hv; simp at hv; rcases hv with rfl | rfl <;> assumption) ?_; intro w13 hp13; simp only [Act.put]))
  refine bodyPost_ret (results_h2 (cs := [va, vb]) rfl rfl (aggCl va vb) (blk_cells hp13.blk)) rfl ⟨bx_put hb012 hp13 ne4, ?_⟩
  rcases hbo with ⟨rfl, rfl, rfl, h⟩ | ⟨rfl, k, h1, h2, h3, h4, h5⟩
  · exact .inl ⟨.inr h, rfl⟩
  · exact .inr ⟨by rw [HG.out]; exact ⟨HAB.out, by simp, by simp, HXY.out⟩, k, va, vb, h1, h2, h3, ownOther h4 hp13 (own_ne h4 hz12 (fun cur hx => by injection hx with _ hx; exact absurd hx (by decide))), ownOther h5 hp13 (own_ne h5 hz12 (fun cur hx => by injection hx with _ hx; exact absurd hx (by decide))), rfl⟩
end
section
open Go.RowKit
set_option linter.unusedVariables false
/-- Behind one hash of a proof: the rows, the two roots. -/
def cstep (wide : Int) (s : List (List UInt8) × List UInt8 × List UInt8) (x : Bool × List UInt8) : List (List UInt8) × List UInt8 × List UInt8 :=
  (s.1 ++ [rowOf x.1 s.2.2 x.2], if x.1 then s.2.1 else narL wide (rowOf false s.2.1 x.2), narL wide (rowOf x.1 s.2.2 x.2))
def chTo (wide : Int) (fs : List Bool) (x : List UInt8) (path : List (List UInt8)) (j : Nat) : List (List UInt8) × List UInt8 × List UInt8 := ((fs.reverse.zip path).take j).foldl (cstep wide) ([], x, x)
def chL (wide : Int) (fs : List Bool) (x : List UInt8) (path : List (List UInt8)) : List (List UInt8) × List UInt8 × List UInt8 := (fs.reverse.zip path).foldl (cstep wide) ([], x, x)
theorem chTo_zero (wide : Int) (fs : List Bool) (x : List UInt8) (path : List (List UInt8)) : chTo wide fs x path 0 = ([], x, x) := rfl
theorem chTo_all {wide : Int} {fs : List Bool} {x : List UInt8} {path : List (List UInt8)} (h : fs.length = path.length) : chTo wide fs x path path.length = chL wide fs x path := by
  unfold chTo chL
  rw [List.take_of_length_le (by rw [List.length_zip, List.length_reverse, h, Nat.min_self]; exact Nat.le_refl _)]
theorem chTo_succ {wide : Int} {fs : List Bool} {x : List UInt8} {path : List (List UInt8)} (h : fs.length = path.length) {j : Nat} (hj : j < path.length) :
    chTo wide fs x path (j + 1) = cstep wide (chTo wide fs x path j) (fs[fs.length - 1 - j]'(by omega), path[j]) := by
  unfold chTo
  rw [List.take_succ_eq_append_getElem (by rw [List.length_zip, List.length_reverse, h, Nat.min_self]; exact hj), List.foldl_append, List.getElem_zip, List.getElem_reverse]
  rfl
theorem chTo_len {wide : Int} {fs : List Bool} {x : List UInt8} {path : List (List UInt8)} (h : fs.length = path.length) : ∀ j, j ≤ path.length → (chTo wide fs x path j).1.length = j := by
  intro j
  induction j with
  | zero => intro _; rfl
  | succ j ih =>
    intro hj
    rw [chTo_succ h (by omega)]
    show ((chTo wide fs x path j).1 ++ [_]).length = _
    rw [List.length_append, ih (by omega)]
    rfl
theorem chTo_hash {wide : Int} {fs : List Bool} {x : List UInt8} {path : List (List UInt8)} (h : fs.length = path.length) (hx : x.length = 32) : ∀ j, j ≤ path.length → (chTo wide fs x path j).2.1.length = 32 ∧ (chTo wide fs x path j).2.2.length = 32 := by
  intro j
  induction j with
  | zero => intro _; exact ⟨hx, hx⟩
  | succ j ih =>
    intro hj
    rw [chTo_succ h (by omega)]
    refine ⟨?_, narL_len _ _⟩
    show (if _ then _ else _ : List UInt8).length = 32
    split
    · exact (ih (by omega)).1
    · exact narL_len _ _
/-- The first hash that counts, and the others. -/
def cfst (m n : Nat) (old : List UInt8) (path : List (List UInt8)) : List UInt8 := if wholeN m n then old else path.getD 0 []
def crest (m n : Nat) (path : List (List UInt8)) : List (List UInt8) := if wholeN m n then path else path.drop 1
def chainedE (m n p : Nat) : Int := if m < 1 ∨ n < m then 15 else if p = longN m n then 0 else 20
def chainedL (wide : Int) (m n : Nat) (old : List UInt8) (path : List (List UInt8)) : List (List UInt8) × List UInt8 × List UInt8 :=
  if chainedE m n path.length = 0 then chL wide (steps m n) (cfst m n old path) (crest m n path) else ([], zeroL, zeroL)
theorem chainedE_ok {m n p : Nat} (h : chainedE m n p = 0) : 1 ≤ m ∧ m ≤ n ∧ p = longN m n := by
  unfold chainedE at h
  split at h
  · omega
  · split at h
    · exact ⟨by omega, by omega, by assumption⟩
    · omega
theorem longN_ok {m n : Nat} (h1 : 1 ≤ m) (h2 : m ≤ n) : longN m n = (steps m n).length + (if wholeN m n then 0 else 1) := by
  unfold longN
  rw [if_neg (by omega)]
theorem crest_len {m n : Nat} {path : List (List UInt8)} (h1 : 1 ≤ m) (h2 : m ≤ n) (h : path.length = longN m n) : (steps m n).length = (crest m n path).length := by
  rw [longN_ok h1 h2] at h
  unfold crest
  split
  · rename_i hw
    rw [hw] at h
    simpa using h.symm
  · rename_i hw
    rw [if_neg hw] at h
    rw [List.length_drop]
    omega
theorem cfst_len {m n : Nat} {old : List UInt8} {path : List (List UInt8)} (h1 : 1 ≤ m) (h2 : m ≤ n) (h : path.length = longN m n) (ho : old.length = 32) (h32 : ∀ x ∈ path, x.length = 32) : (cfst m n old path).length = 32 := by
  unfold cfst
  split
  · exact ho
  · rename_i hw
    rw [longN_ok h1 h2, if_neg hw] at h
    have h0 : 0 < path.length := by omega
    rw [show path.getD 0 [] = path[0] by simp [List.getD, h0]]
    exact h32 _ (List.getElem_mem h0)
theorem chL_hash {wide : Int} {fs : List Bool} {x : List UInt8} {path : List (List UInt8)} (h : fs.length = path.length) (hx : x.length = 32) : (chL wide fs x path).2.1.length = 32 ∧ (chL wide fs x path).2.2.length = 32 := by
  rw [← chTo_all h]
  exact chTo_hash h hx _ (Nat.le_refl _)
theorem chainedL_hash {wide : Int} {m n : Nat} {old : List UInt8} {path : List (List UInt8)} (ho : old.length = 32) (h32 : ∀ x ∈ path, x.length = 32) : (chainedL wide m n old path).2.1.length = 32 ∧ (chainedL wide m n old path).2.2.length = 32 := by
  unfold chainedL
  split
  · rename_i h
    obtain ⟨h1, h2, h3⟩ := chainedE_ok h
    exact chL_hash (crest_len h1 h2 h3) (cfst_len h1 h2 h3 ho h32)
  · exact ⟨zeroL_len, zeroL_len⟩
/-! ### Two hashes in one array -/
abbrev tHH : Nat := 59
theorem zeroHH : ZeroT Tryd.prog tHH (.agg (List.replicate 64 (cb 0)).toArray) := zeroT_of (by kernel_rfl)
theorem aggHH : AggT Tryd.prog tHH 64 := aggT_of Tryd.underlying59 rfl (by kernel_rfl)
theorem aggHHL {h : List UInt8} (hl : h.length = 64) : AggT Tryd.prog tHH (h.map cb).length := by rw [List.length_map, hl]; exact aggHH
theorem aggHHS {h : List UInt8} (hl : h.length = 64) : AggT Tryd.prog tHH (h.map cb).toArray.size := by rw [List.size_toArray]; exact aggHHL hl
theorem splHH {l : List UInt8} (h : l.length = 64) : spl (Value.agg (List.replicate 64 (cb 0)).toArray).cells 0 (l.map cb).toArray.toList = (l.map cb).toArray := spl_whole (by
  show (List.replicate 64 (cb 0)).toArray.size = _
  simp [h])
theorem szHH {l : List UInt8} (h : l.length = 64) : 0 + (l.map cb).toArray.size ≤ (Value.agg (List.replicate 64 (cb 0)).toArray).cells.size := by
  show 0 + (l.map cb).toArray.size ≤ (List.replicate 64 (cb 0)).toArray.size
  simp [h]
theorem built_array {P : Program} {t e n size : Nat} {z : Value} {vs : List Value} (hu : P.underlying t = some (.array n e)) (hz : (P.info? t).map (·.zero) = some (some z)) (hp : (P.info? e).map (·.size) = some size) (hs : ∀ v ∈ vs, v.cells.size = size) (hl : (flat vs).length = z.cells.size) :
    P.built t ((vs.zipIdx 0).map fun x => (x.2, x.1)) = some (flat vs).toArray := by
  cases hq : P.info? t with
  | none => simp [hq] at hz
  | some i =>
    cases hq2 : P.info? e with
    | none => simp [hq2] at hp
    | some ie =>
      have hz' : i.zero = some z := by simpa [hq] using hz
      have hp' : ie.size = size := by simpa [hq2] using hp
      obtain ⟨r, h1, h2⟩ := fill_seq (fun i => some (i * ie.size, ie.size)) vs 0 0 z.cells (fun j v hv => by
        rw [Nat.zero_add, Nat.zero_add]
        have hvs := hs v (List.mem_of_getElem? hv)
        have hsum : ∀ (l : List Value), (∀ u ∈ l, u.cells.size = size) → (l.map fun v => v.cells.size).sum = l.length * size := by
          intro l
          induction l with
          | nil => intro _; simp
          | cons u l ih =>
            intro hu
            rw [List.map_cons, List.sum_cons, ih (fun x hx => hu x (List.mem_cons_of_mem _ hx)), hu u (List.mem_cons_self ..), List.length_cons, Nat.succ_mul]
            omega
        rw [hsum (vs.take j) (fun u hu => hs u (List.mem_of_mem_take hu)), List.length_take, hvs, hp', Nat.min_eq_left (by have := (List.getElem?_eq_some_iff.1 hv).1; omega)]) (by omega)
      have hr : r = (flat vs).toArray := by
        apply Array.toList_inj.1
        rw [h2]
        simp only [List.take_zero, List.nil_append, Nat.zero_add]
        rw [List.drop_eq_nil_of_le (by simp; omega), List.append_nil]
      unfold Program.built
      simp only [hq, hu, hz', hq2]
      rw [← hr, ← h1]
theorem builtHH {a b : List UInt8} (ha : a.length = 32) (hb : b.length = 32) : Tryd.prog.built tHH (([Value.agg (a.map cb).toArray, Value.agg (b.map cb).toArray].zipIdx 0).map fun x => (x.2, x.1)) = some ((a ++ b).map cb).toArray := by
  have := built_array (P := Tryd.prog) (vs := [Value.agg (a.map cb).toArray, Value.agg (b.map cb).toArray]) (size := 32) Tryd.underlying59 (z := .agg (List.replicate 64 (cb 0)).toArray) (by kernel_rfl) (by kernel_rfl) (by
    intro v hv
    simp at hv
    rcases hv with rfl | rfl
    · exact cells_cb ha
    · exact cells_cb hb) (by simp [flat, Value.cells, ha, hb])
  rw [this]
  simp [flat, Value.cells]
theorem zeroHH_cb : (List.replicate 64 (cb 0)) = (zeroL ++ zeroL).map cb := by unfold zeroL; rw [List.replicate_append_replicate, List.map_replicate]
end
section
open Go.RowKit
set_option linter.unusedVariables false
theorem wrap_u64_of {m : Nat} (h : m < 18446744073709551616) : IntKind.u64.wrap (m : Int) = (m : Int) := by simp only [IntKind.wrap, IntKind.bits, IntKind.signed]; simp; omega
theorem aggHHz : AggT Tryd.prog tHH (Value.agg (List.replicate 64 (cb 0)).toArray).cells.toList.length := by
  rw [show (Value.agg (List.replicate 64 (cb 0)).toArray).cells.toList.length = 64 from by simp [Value.cells]]
  exact aggHH
set_option maxRecDepth 100000 in
set_option maxHeartbeats 1000000 in
theorem chained_no (w : World) (wide : Int) {m n : Nat} (hm : m < 18446744073709551616) (hn : n < 18446744073709551616) {old : List UInt8} (ho : old.length = 32) (Ap : Option Addr) (c p : Nat) (hp : p ≤ 1000) (hE : chainedE m n p ≠ 0) :
    Calls Tryd.prog 22 #[.int .i64 wide, .agg (kcell m old).toArray, .int .u64 (n : Int), .slice Ap p c] w fun e w' => e = .returned (.tuple #[.slice none 0 0, .agg ((zeroL ++ zeroL).map cb).toArray, .int .i64 (chainedE m n p)]) ∧ Below w.heap.size w w' := by
  have hkb0 : Blk (w.alloc (.cells (kcell m old).toArray tKy)) w.heap.size tKy (kcell m old).toArray := Blk.new w _ _
  have hb1 : Below w.heap.size w (w.alloc (.cells (kcell m old).toArray tKy)) := bx_alloc (Below.refl _ _) _
  have hs1 : (w.alloc (.cells (kcell m old).toArray tKy)).heap.size = w.heap.size + 1 := by simp
  have HLG := hid (fun w' => Long_any w' m n hm hn)
  obtain ⟨E, hEe⟩ : ∃ E, E = chainedE m n p := ⟨_, rfl⟩
  rw [← hEe] at hE ⊢
  have HE := hid hEe
  have HN := hid hE
  clear hEe hE
  obtain ⟨Z, hZ⟩ : ∃ Z, Z = zeroL ++ zeroL := ⟨_, rfl⟩
  have hzl : Z.length = 64 := by rw [hZ, List.length_append, zeroL_len]
  have HZ := hid zeroHH_cb
  rw [← hZ] at HZ ⊢
  clear hZ
  have hcases : m < 1 ∨ (1 ≤ m ∧ n < m) ∨ (1 ≤ m ∧ m ≤ n ∧ p ≠ longN m n) := by
    rcases Nat.lt_or_ge m 1 with h | h
    · exact .inl h
    · rcases Nat.lt_or_ge n m with h2 | h2
      · exact .inr (.inl ⟨h, h2⟩)
      · refine .inr (.inr ⟨h, h2, fun h3 => HN.out ?_⟩)
        rw [HE.out]
        unfold chainedE
        rw [if_neg (by omega), if_pos h3]
  rcases hcases with h | ⟨h, h2⟩ | ⟨h, h2, h3⟩
  · have hi : (m : Int) < 1 := by omega
    have HEE : Hid (E = 15) := hid (by rw [HE.out]; unfold chainedE; rw [if_pos (.inl h)])
    go_enter Tryd.func22, Tryd.ntmps22
    go_wp2_with (first
      | ((with_reducible refine wpAtC ?_); refine wpList_alloc (w := w.alloc (.cells (kcell m old).toArray tKy)) rfl _ rfl zeroHH ?_; intro g9 w4 hg9 hg9' hz9 hb4; have hs4 := hb4.size; have c5 := kcell_size (hkb0.below hb4 hkb0.lt); have hk4 := hkb0.below hb4 hkb0.lt; have hb04 := bx_trans hb1 hb4; simp only [Act.put, List.setIfInBounds_toArray, List.set_cons_succ, List.set_cons_zero])
      | ((with_reducible refine wpAtC ?_); refine wpList_alloc (w := w4) rfl _ rfl zeroHH ?_; intro g11 w5 hg11 hg11' hz11 hb5; have c55 := kcell_size (hk4.below hb5 hk4.lt); have hz95 := hz9.below hb5 hz9.lt; have hb05 := bx_trans hb04 hb5; simp only [Act.put, List.setIfInBounds_toArray, List.set_cons_succ, List.set_cons_zero]))
    have hw9 : w.heap.size ≤ g9 := by omega
    refine wp_flow (by kernel_rfl) [0, 0, 3, 7] 2 [false, false, false, false, false, false, false, false, true, false, false, false, false, false, false, false, false, false, false, false, false, false, false, false, false, false, false, false, false, false, false, false, false, false, true] (by kernel_rfl) (by decide) (by kernel_rfl) [FP.eq (.agg (List.replicate 64 (cb 0)).toArray), FP.eq (Value.slice none 0 0)] ?_ ?_
    · refine allFrom_cons ?_ ?_
      · intro a_ w_ hk_
        have h11 : a_.eval (.tmp 11) = .pointer (some ⟨g11, 0, none⟩) := hk_.old 11 (by kernel_rfl)
        have hx_ := hk_.ext
        clear hk_
        refine flow_plain rfl ?_
        exact gives_ldC rfl h11 aggHHz (blk_cells (hz11.below hx_ hz11.lt)) ⟨Below.refl _ _, rfl⟩
      refine allFrom_cons ?_ ?_
      · intro a_ w_ hk_
        have hx_ := hk_.ext
        clear hk_
        refine flow_plain rfl ?_
        exact gives_assign rfl ⟨Below.refl _ _, rfl⟩
      exact allFrom_nil
    intro f_ w_ hx_ hf_
    have h34 : f_ 34 = (.agg (List.replicate 64 (cb 0)).toArray) := hf_ 0 34 _ (by decide) rfl rfl
    have h8 : f_ 8 = (Value.slice none 0 0) := hf_ 1 8 _ (by decide) rfl rfl
    simp only [mix, List.drop_succ_cons, List.drop_zero, h34, h8]
    clear h34 h8
    clear hf_
    have hz9z := hz95.below hx_ hz95.lt
    have hbz := bx_trans hb05 hx_
    rw [HZ.out]
    go_wp2_with ((with_reducible refine wpAtC ?_); refine wpList_store_agg rfl _ _ _ rfl _ _ rfl (Z.map cb).toArray rfl (aggHHS hzl) hz9z (szHH hzl) (one_cbA _) ?_; intro w16 hp16; simp only [Act.put]; rw [splHH hzl] at hp16)
    exact bodyPost_ret (results_3 rfl rfl (aggHHL hzl) (blk_cells hp16.blk)) rfl ⟨by rw [HEE.out]; rfl, bx_put hbz hp16 hw9⟩
  · have hi : ¬ (m : Int) < 1 := by omega
    have hi2 : (n : Int) < (m : Int) := by omega
    have HEE : Hid (E = 15) := hid (by rw [HE.out]; unfold chainedE; rw [if_pos (.inr h2)])
    go_enter Tryd.func22, Tryd.ntmps22
    go_wp2_with (first
      | ((with_reducible refine wpAtC ?_); refine wpList_alloc (w := w.alloc (.cells (kcell m old).toArray tKy)) rfl _ rfl zeroHH ?_; intro g9 w4 hg9 hg9' hz9 hb4; have hs4 := hb4.size; have c5 := kcell_size (hkb0.below hb4 hkb0.lt); have hk4 := hkb0.below hb4 hkb0.lt; have hb04 := bx_trans hb1 hb4; simp only [Act.put, List.setIfInBounds_toArray, List.set_cons_succ, List.set_cons_zero])
      | ((with_reducible refine wpAtC ?_); refine wpList_alloc (w := w4) rfl _ rfl zeroHH ?_; intro g11 w5 hg11 hg11' hz11 hb5; have c55 := kcell_size (hk4.below hb5 hk4.lt); have hz95 := hz9.below hb5 hz9.lt; have hb05 := bx_trans hb04 hb5; simp only [Act.put, List.setIfInBounds_toArray, List.set_cons_succ, List.set_cons_zero]))
    have hw9 : w.heap.size ≤ g9 := by omega
    refine wp_flow (by kernel_rfl) [0, 0, 3, 7] 2 [false, false, false, false, false, false, false, false, true, false, false, false, false, false, false, false, false, false, false, false, false, false, false, false, false, false, false, false, false, false, false, false, false, false, true] (by kernel_rfl) (by decide) (by kernel_rfl) [FP.eq (.agg (List.replicate 64 (cb 0)).toArray), FP.eq (Value.slice none 0 0)] ?_ ?_
    · refine allFrom_cons ?_ ?_
      · intro a_ w_ hk_
        have h11 : a_.eval (.tmp 11) = .pointer (some ⟨g11, 0, none⟩) := hk_.old 11 (by kernel_rfl)
        have hx_ := hk_.ext
        clear hk_
        refine flow_plain rfl ?_
        exact gives_ldC rfl h11 aggHHz (blk_cells (hz11.below hx_ hz11.lt)) ⟨Below.refl _ _, rfl⟩
      refine allFrom_cons ?_ ?_
      · intro a_ w_ hk_
        have hx_ := hk_.ext
        clear hk_
        refine flow_plain rfl ?_
        exact gives_assign rfl ⟨Below.refl _ _, rfl⟩
      exact allFrom_nil
    intro f_ w_ hx_ hf_
    have h34 : f_ 34 = (.agg (List.replicate 64 (cb 0)).toArray) := hf_ 0 34 _ (by decide) rfl rfl
    have h8 : f_ 8 = (Value.slice none 0 0) := hf_ 1 8 _ (by decide) rfl rfl
    simp only [mix, List.drop_succ_cons, List.drop_zero, h34, h8]
    clear h34 h8
    clear hf_
    have hz9z := hz95.below hx_ hz95.lt
    have hbz := bx_trans hb05 hx_
    rw [HZ.out]
    go_wp2_with ((with_reducible refine wpAtC ?_); refine wpList_store_agg rfl _ _ _ rfl _ _ rfl (Z.map cb).toArray rfl (aggHHS hzl) hz9z (szHH hzl) (one_cbA _) ?_; intro w16 hp16; simp only [Act.put]; rw [splHH hzl] at hp16)
    exact bodyPost_ret (results_3 rfl rfl (aggHHL hzl) (blk_cells hp16.blk)) rfl ⟨by rw [HEE.out]; rfl, bx_put hbz hp16 hw9⟩
  · have hi : ¬ (m : Int) < 1 := by omega
    have hi2 : ¬ (n : Int) < (m : Int) := by omega
    have HEE : Hid (E = 20) := hid (by rw [HE.out]; unfold chainedE; rw [if_neg (by omega), if_neg h3])
    have hpq : ((p : Int) == (longN m n : Int)) = false := by simp; omega
    generalize longN m n = LN at *
    go_enter Tryd.func22, Tryd.ntmps22
    go_wp2_with (first
      | ((with_reducible refine wpAtC ?_); refine wpList_alloc (w := w.alloc (.cells (kcell m old).toArray tKy)) rfl _ rfl zeroHH ?_; intro g9 w4 hg9 hg9' hz9 hb4; have hs4 := hb4.size; have c5 := kcell_size (hkb0.below hb4 hkb0.lt); have hk4 := hkb0.below hb4 hkb0.lt; have hb04 := bx_trans hb1 hb4; simp only [Act.put, List.setIfInBounds_toArray, List.set_cons_succ, List.set_cons_zero])
      | ((with_reducible refine wpAtC ?_); refine wpList_alloc (w := w4) rfl _ rfl zeroHH ?_; intro g11 w5 hg11 hg11' hz11 hb5; have c55 := kcell_size (hk4.below hb5 hk4.lt); have hz95 := hz9.below hb5 hz9.lt; have hb05 := bx_trans hb04 hb5; simp only [Act.put, List.setIfInBounds_toArray, List.set_cons_succ, List.set_cons_zero]))
    refine (HLG.out w5).mono ?_
    rintro e w6 ⟨rfl, hb6⟩
    have hw9 : w.heap.size ≤ g9 := by omega
    have hz96 := hz95.below hb6 hz95.lt
    have hz116 := hz11.below hb6 hz11.lt
    have hb06 := bx_trans hb05 hb6
    clear hz95 hz11 hb05 hb04 hb1 hk4 hkb0 c5 c55 hz9 hs1 hs4
    have hz11 := hz116
    have hb05 := hb06
    clear hz116 hb06
    go_wp2_with fail
    refine wp_flow (by kernel_rfl) [0, 0, 3, 7] 2 [false, false, false, false, false, false, false, false, true, false, false, false, false, false, false, false, false, false, false, false, false, false, false, false, false, false, false, false, false, false, false, false, false, false, false, false, false, false, false, false, false, false, true] (by kernel_rfl) (by decide) (by kernel_rfl) [FP.eq (.agg (List.replicate 64 (cb 0)).toArray), FP.eq (Value.slice none 0 0)] ?_ ?_
    · refine allFrom_cons ?_ ?_
      · intro a_ w_ hk_
        have h11 : a_.eval (.tmp 11) = .pointer (some ⟨g11, 0, none⟩) := hk_.old 11 (by kernel_rfl)
        have hx_ := hk_.ext
        clear hk_
        refine flow_plain rfl ?_
        exact gives_ldC rfl h11 aggHHz (blk_cells (hz11.below hx_ hz11.lt)) ⟨Below.refl _ _, rfl⟩
      refine allFrom_cons ?_ ?_
      · intro a_ w_ hk_
        have hx_ := hk_.ext
        clear hk_
        refine flow_plain rfl ?_
        exact gives_assign rfl ⟨Below.refl _ _, rfl⟩
      exact allFrom_nil
    intro f_ w_ hx_ hf_
    have h42 : f_ 42 = (.agg (List.replicate 64 (cb 0)).toArray) := hf_ 0 42 _ (by decide) rfl rfl
    have h8 : f_ 8 = (Value.slice none 0 0) := hf_ 1 8 _ (by decide) rfl rfl
    simp only [mix, List.drop_succ_cons, List.drop_zero, h42, h8]
    clear h42 h8
    clear hf_
    have hz9z := hz96.below hx_ hz96.lt
    have hbz := bx_trans hb05 hx_
    rw [HZ.out]
    go_wp2_with ((with_reducible refine wpAtC ?_); refine wpList_store_agg rfl _ _ _ rfl _ _ rfl (Z.map cb).toArray rfl (aggHHS hzl) hz9z (szHH hzl) (one_cbA _) ?_; intro w16 hp16; simp only [Act.put]; rw [splHH hzl] at hp16)
    exact bodyPost_ret (results_3 rfl rfl (aggHHL hzl) (blk_cells hp16.blk)) rfl ⟨by rw [HEE.out]; rfl, bx_put hbz hp16 hw9⟩
end
end Go.Proofs.YtgaefejblmnklaaDoor
