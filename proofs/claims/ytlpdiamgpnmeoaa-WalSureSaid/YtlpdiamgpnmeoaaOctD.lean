
/- octet: the reader's reading methods. -/
import Derived.Test.YtlpdiamgpnmeoaaOctC
namespace Go.Proofs.Ytlpdiamgpnmeoaa
open Go.RowKit
set_option linter.unusedVariables false

/-- A slice that reads as l, in a block of bytes. -/
def SlO (w : World) (v : Value) (l : List UInt8) : Prop := ∃ A c, v = .slice A l.length c ∧ l.length ≤ c ∧ c ≤ maxLen ∧ Rd w w.heap.size A (l.map cb) ∧ ∀ a, A = some a → ∃ cs fr, w.heap[a.block]? = some (.cells cs 5 fr)
theorem slO_nil (w : World) : SlO w (.slice none 0 0) [] := ⟨none, 0, rfl, Nat.le_refl _, by unfold maxLen; omega, .inl rfl, fun _ h => by cases h⟩
theorem addr_block (a : Addr) (n : Nat) : (a.add n).block = a.block := by
  unfold Addr.add
  split <;> rfl
set_option maxRecDepth 100000 in
set_option maxHeartbeats 800000 in
theorem Rtake_any (w : World) {g : Nat} {s : RS} {A : Option Addr} {c : Nat} (h : IsR w g s A c) (n : Nat) (hn : n ≤ 9223372036854775807) :
    Calls Try.prog 57 #[.pointer (some ⟨g, 0, none⟩), .int .i64 (n : Int)] w fun e w' => ∃ v, e = .returned v ∧ SlO w' v (takeV s n) ∧ Rr w' g (takeS s n) ∧ w.grownBy w' (some g) := by
  have c0 : w.cell? ⟨g, 0, none⟩ = some (.slice A s.b.length c) := h.blk.cell 0
  have c1 : w.cell? ⟨g, 1, none⟩ = some (.int .i64 s.e) := h.blk.cell 1
  have f0 := h.blk.frozen 0
  have f1 := h.blk.frozen 1
  have hlc := h.len
  have hcm := h.cap
  unfold maxLen at hcm
  unfold takeV takeS
  by_cases he : s.e = 0
  · rw [if_pos he, if_pos he]
    rw [he] at c1
    by_cases hl : s.b.length < n
    · rw [if_pos hl, if_pos hl]
      have hp := setCell_put h.blk (i := 1) (.int .i64 10)
      have hfin := h.setE (e := 10) hp
      have hrg := rg_put hp
      have c11 : (w.setCell ⟨g, 1, none⟩ (.int .i64 10)).cell? ⟨g, 1, none⟩ = some (.int .i64 10) := hp.blk.cell 1
      have HF := hid hfin
      have HR := hid hrg
      have hl2 : (s.b.length : Int) < (n : Int) := by omega
      clear he hp hfin hrg hl
      generalize s.b.length = m at *
      go_enter Try.func57, Try.ntmps57
      go_wp2
      go_ret
      exact ⟨_, rfl, slO_nil _, ⟨A, c, HF.out⟩, HR.out⟩
    · rw [if_neg hl, if_neg hl]
      have hp := setCell_put h.blk (i := 0) (.slice (if c = n then A else A.map (fun x => x.add n)) (s.b.length - n) (c - n))
      have hrg := rg_put hp
      have hA1 : ∀ a, A = some a → a.block ≠ g := fun a e => h.ne e
      have hrd1 := h.rd.grown hrg hA1
      have hout1 := out_grown h.out hrg hA1
      have hdl : (s.b.drop n).length = s.b.length - n := List.length_drop
      have hout2 : ∀ a, (if c = n then A else A.map (fun x => x.add n)) = some a → ∃ cs fr, (w.setCell ⟨g, 0, none⟩ (.slice (if c = n then A else A.map (fun x => x.add n)) (s.b.length - n) (c - n))).heap[a.block]? = some (.cells cs 5 fr) := by
        intro a e
        split at e
        · exact hout1 a e
        · cases A with
          | none => cases e
          | some a0 =>
            rw [Option.map_some] at e
            injection e with e
            rw [← e, addr_block]
            exact hout1 a0 rfl
      have hR : IsR (w.setCell ⟨g, 0, none⟩ (.slice (if c = n then A else A.map (fun x => x.add n)) (s.b.length - n) (c - n))) g { s with b := s.b.drop n } (if c = n then A else A.map (fun x => x.add n)) (c - n) := by
        refine ⟨?_, ?_, ?_, ?_, hout2⟩
        · show Blk _ _ _ #[.slice _ (s.b.drop n).length _, .int .i64 s.e]
          rw [hdl]
          exact hp.blk
        · show Rd _ _ _ ((s.b.drop n).map cb)
          rw [List.map_drop]
          exact (hrd1.drop (by simpa using hlc)).more (Nat.le_of_eq hp.size.symm)
        · show (s.b.drop n).length ≤ c - n
          omega
        · unfold maxLen
          omega
      have hV : SlO (w.setCell ⟨g, 0, none⟩ (.slice (if c = n then A else A.map (fun x => x.add n)) (s.b.length - n) (c - n))) (.slice A n n) (s.b.take n) := by
        refine ⟨A, n, by rw [List.length_take, Nat.min_eq_left (by omega)], by rw [List.length_take]; omega, by unfold maxLen; omega, ?_, hout1⟩
        rw [List.map_take]
        exact (hrd1.take n).more (Nat.le_of_eq hp.size.symm)
      have HR := hid hR
      have HV := hid hV
      have HG := hid hrg
      have hl2 : ¬ (s.b.length : Int) < (n : Int) := by omega
      have hnm : n ≤ s.b.length := by omega
      have hnc : n ≤ c := by omega
      clear he hp hrg hA1 hrd1 hout1 hdl hout2 hR hV hl
      generalize s.b.length = m at *
      by_cases hcn : c = n
      · have hc0 : c - n = 0 := by omega
        rw [if_pos hcn, hc0] at HR HV HG
        clear hc0
        go_enter Try.func57, Try.ntmps57
        go_wp2
        go_ret
        exact ⟨_, rfl, HV.out, ⟨_, _, HR.out⟩, HG.out⟩
      · rw [if_neg hcn] at HR HV HG
        go_enter Try.func57, Try.ntmps57
        go_wp2
        go_ret
        exact ⟨_, rfl, HV.out, ⟨_, _, HR.out⟩, HG.out⟩
  · rw [if_neg he, if_neg he]
    have he2 : (s.e == 0) = false := by simpa using he
    clear he
    go_enter Try.func57, Try.ntmps57
    go_wp2
    go_ret
    exact ⟨_, rfl, slO_nil _, ⟨A, c, h⟩, rg_below (Below.refl _ _)⟩
end Go.Proofs.Ytlpdiamgpnmeoaa
