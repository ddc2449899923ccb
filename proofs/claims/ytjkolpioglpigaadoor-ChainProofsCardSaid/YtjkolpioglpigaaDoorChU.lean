
/- The document's answer for chains: rows of strings. -/
import Derived.Test.YtjkolpioglpigaaDoorChT
import Derived.Test.YtjkolpioglpigaaDoorChO
namespace Go.Proofs.YtjkolpioglpigaaDoor
open Go.RowKit
set_option linter.unusedVariables false
def sv (l : List UInt8) : Value := .string ⟨l.toArray⟩
theorem elS : ElT Tryd.prog 31 9 1 16 (Value.string ⟨#[]⟩).cells := elT_of Tryd.underlying31 (by kernel_rfl) rfl (by decide)
theorem one_sv (l : List (List UInt8)) : ∀ u ∈ l.map sv, u.oneCell' = true := by
  intro u hu
  obtain ⟨b, _, rfl⟩ := List.mem_map.1 hu
  rfl
theorem convBS {w : World} {B : Nat} {A : Option Addr} {l : List UInt8} (c : Nat) (hr : Rd w B A (l.map cb)) : (convert 50 9 (.slice A l.length c)).run Tryd.prog w = .ok (.string ⟨l.toArray⟩) w :=
  conv_str Tryd.underlying50 Tryd.underlying5 Tryd.underlying9 c hr
set_option maxRecDepth 10000 in
set_option maxHeartbeats 1000000 in
theorem texts_any (w : World) {A : Option Addr} {c : Nat} {ls : List (List UInt8)} (hr : RdBB w w.heap.size A ls) (hc : ls.length ≤ c) (h20 : ls.length ≤ 20) :
    Calls Tryd.prog 14 #[.slice A ls.length c] w fun e w' => ∃ v, e = .returned v ∧ w'.ownsRow w.heap.size 9 1 v ls.length (ls.map sv) ∧ Below w.heap.size w w' := by
  have HR := hid hr
  clear hr
  go_enter Tryd.func14, Tryd.ntmps14
  go_wp2
  go_loopw [3, 4] (fun v3 v4 wr => ∃ i : Nat, i ≤ ls.length ∧ v4 = .int .i64 (i : Int) ∧ wr.ownsRow w.heap.size 9 1 v3 i ((ls.take i).map sv) ∧ Below w.heap.size w wr) (fun _ v4 _ => ls.length - (intOf v4).toNat)
  case atStart => exact ⟨0, Nat.zero_le _, rfl, nil_ownP _ _ _ _, Below.refl _ _⟩
  case round =>
    obtain ⟨i, hi, rfl, hown, hbr⟩ := hrel
    rename World => wr
    by_cases hlt : i < ls.length
    · have HRR := hid ((HR.out.below hbr).more hbr.size)
      obtain ⟨b, off, A', c', rfl, hbB, hcell, hlc, hrd⟩ := HRR.out.at_ hlt
      have htk : (ls.take (i + 1)).map sv = (ls.take i).map sv ++ [ls[i]].map sv := by rw [List.take_succ_eq_append_getElem hlt, List.map_append]
      have HTK := hid htk
      have hcv := convBS c' hrd
      have hlen := hid hlc
      clear htk hlc hrd
      generalize ls[i] = x at *
      obtain ⟨A3, c3, rfl, _, _, _⟩ := own_form hown
      have hown1 := own_keep hown (bx_alloc (Below.refl _ wr) (.cells #[.string ⟨x.toArray⟩] 9))
      have hb1 := bx_alloc hbr (.cells #[.string ⟨x.toArray⟩] 9)
      have rd1 := rd_of_row (w := wr.alloc (.cells #[.string ⟨x.toArray⟩] 9)) (heap_new rfl) (xs := [x].map sv) rfl
      have hbs1 := hb1.size
      have h63 : i + 1 ≤ maxLen := by unfold maxLen; omega
      have hby : (i + 1) * 16 ≤ 140737488355328 := by omega
      have h20i : (i : Int) < 20 := by omega
      go_wp2_with (at_builtin; refine wpList_app rfl _ _ _ rfl _ rfl _ _ _ rfl elS hown1 rd1 rfl (one_sv _) h63 hby hbs1 ?_; intro v7 w7 hown7 hg7 hat7)
      go_roundw
      case rel => exact ⟨i + 1, by omega, rfl, by rw [HTK.out]; exact hown7, own_below hb1 hown1 hg7⟩
      case measure => simp [intOf]; omega
    · obtain rfl : i = ls.length := by omega
      rw [List.take_length] at hown
      go_wp2
      go_ret
      exact ⟨_, rfl, hown, hbr⟩
end Go.Proofs.YtjkolpioglpigaaDoor
