
/- Records: Records walked. -/
import Derived.Test.YtlpdiamgpnmeoaaWaH
namespace Go.Proofs.Ytlpdiamgpnmeoaa
open Go.RowKit
set_option linter.unusedVariables false
/-- What Records tells. -/
def RecPost (w : World) (rs : List (List UInt8)) (e : Ending) (w' : World) : Prop := ∃ v vs, e = .returned v ∧ RowsAt w' w.heap.size v vs rs ∧ Below w.heap.size w w'
set_option maxRecDepth 100000 in
set_option maxHeartbeats 1000000 in
theorem Records_any (w : World) {B gl g : Nat} {D : DS} {L : LS} {vb vr : Value} {vs : List Value} (h : IsLog w B gl g D L vb vr vs) (hn : L.rows.length ≤ 1000000) :
    Calls Try.prog 17 #[.pointer (some ⟨gl, 0, none⟩)] w (RecPost w L.rows) := by
  obtain ⟨rs, hrs⟩ : ∃ rs, rs = L.rows := ⟨_, rfl⟩
  have hrow := h.rows
  have hsh := h.short
  have hblk := h.blk
  rw [← hrs] at hrow hsh hn ⊢
  obtain ⟨A, c, hv, hnc, hcm, hrd⟩ := own_form hrow.own
  rw [hv] at hblk
  have c5 : w.cell? ⟨gl, 5, none⟩ = some (.slice A rs.length c) := hblk.cell 5
  have hvl := hrow.len
  have HRD := hid hrow.rd
  have HSH := hid hsh
  clear hrs hv hblk h hrow hsh
  have HV := hid hvl
  have HR := hid hrd
  clear hvl hrd
  go_enter Try.func17, Try.ntmps17
  go_wp2_with fail
  go_loopw [3, 5, 13] (fun v3 _ v13 wr => ∃ (k : Nat) (us : List Value), v13 = .int .i64 (k : Int) ∧ k ≤ rs.length ∧ RowsAt wr w.heap.size v3 us (rs.take k) ∧ Below w.heap.size w wr) (fun _ _ v13 _ => rs.length + 1 - (ofInt v13).toNat)
  case atStart => exact ⟨0, [], rfl, by omega, RowsAt.nil _ _, Below.refl _ _⟩
  case round =>
    obtain ⟨k, us, rfl, hk, hro, hbr⟩ := hrel
    rename World => wr
    have hB := hbr.size
    obtain ⟨acc, hacc⟩ : ∃ acc, acc = rs.take k := ⟨_, rfl⟩
    rw [← hacc] at hro
    have HAC := hid hacc
    obtain ⟨A4, c4, e4, _, _, _⟩ := own_form hro.own
    subst e4
    have hkl : acc.length = k := by rw [hacc, List.length_take]; omega
    clear hacc
    by_cases hlt : k < rs.length
    · have hlti : (k : Int) < (rs.length : Int) := by omega
      obtain ⟨gb, off, rfl, hgb, hcell⟩ := (HR.out.below hbr).at_ (k := k) (by rw [HV.out]; exact hlt)
      obtain ⟨x, hx⟩ : ∃ x, rs[k]? = some x := ⟨_, List.getElem?_eq_getElem hlt⟩
      obtain ⟨u, hu⟩ : ∃ u, vs[k]? = some u := ⟨_, List.getElem?_eq_getElem (by rw [HV.out]; exact hlt)⟩
      have hown := HRD.out k u x hu hx
      have hxs := HSH.out x (List.mem_of_getElem? hx)
      obtain ⟨Ax, cx, rfl, hcx, hmx, hrx⟩ := own_form hown
      have hck : wr.cell? ⟨gb, off + k, none⟩ = some (.slice Ax x.length cx) := by
        exact hcell k _ hu
      have hxr := hrx.below hbr
      have HRO := hid hro
      have HXR := hid hxr
      have HKL := hid hkl
      have hkx : rs.take (k + 1) = acc ++ [x] := by rw [HAC.out, List.take_add_one, hx]; rfl
      have HKX := hid hkx
      clear hcell hown hrx hxr hro hx hu hkl hkx
      go_wp2_with fail
      refine (Clone_any wr HXR.out (by omega)).mono ?_
      rintro e w1 ⟨v, rfl, hown1, hb1⟩
      obtain ⟨Ac, cc, rfl, hcc, hmc, _⟩ := own_form hown1
      have hb2 : Below wr.heap.size wr (w1.alloc (.cells #[.slice Ac x.length cc] tBy)) := bx_alloc hb1 _
      have hR2 := HRO.out.below hb2
      have hO2 := hR2.own
      have hB2 : OwnB (w1.alloc (.cells #[.slice Ac x.length cc] tBy)) w.heap.size (.slice Ac x.length cc) x := own_keepW (own_lessW hown1 hB) (bx_alloc (Below.refl _ w1) _)
      have hx2 : Rd (w1.alloc (.cells #[.slice Ac x.length cc] tBy)) (w1.alloc (.cells #[.slice Ac x.length cc] tBy)).heap.size (some ⟨w1.heap.size, 0, none⟩) [.slice Ac x.length cc] := rd_of_row (heap_new rfl) rfl
      have hbs := Nat.le_trans hB hb2.size
      have h63 : acc.length + 1 ≤ maxLen := by rw [HKL.out]; unfold maxLen; omega
      have hby : (acc.length + 1) * 24 ≤ 140737488355328 := by rw [HKL.out]; omega
      have hone : ∀ u ∈ [Value.slice Ac x.length cc], u.oneCell' = true := by intro u hu; simp at hu; subst hu; rfl
      have HR2 := hid hR2
      have HB2 := hid hB2
      have hbw2 := hbr.trans (hb2.mono hB)
      clear hown1 hb1 hR2 hB2
      go_wp2_with (at_builtin; refine wpList_app rfl _ _ _ rfl _ rfl _ _ _ rfl elBy hO2 hx2 rfl hone h63 hby hbs ?_; intro v3 w3 hown3 hg3 hat3)
      have hbr3 := own_below hbw2 hO2 hg3
      have hR3 := HR2.out.app HB2.out hown3 hg3
      rw [← HKX.out] at hR3
      exact ⟨⟨k + 1, _, by push_cast; rfl, hlt, hR3, hbr3⟩, by show rs.length + 1 - ((k : Int) + 1).toNat < rs.length + 1 - (k : Int).toNat; omega⟩
    · clear hkl
      go_wp2_with fail
      have hkn : acc = rs := by rw [HAC.out]; exact List.take_of_length_le (by omega)
      subst hkn
      exact bodyPost_ret (results_tmp rfl _ _ _) rfl ⟨.slice A4 acc.length c4, us, rfl, hro, hbr⟩
end Go.Proofs.Ytlpdiamgpnmeoaa
