
/- The digest of bytes: how many there are. -/
import Derived.Test.YthbmmilefimpaaaDigG
namespace Go.Proofs.Ythbmmilefimpaaa
open Go.RowKit Go.Maps
set_option linter.unusedVariables false
theorem IsR.app {w w1 : World} {g : Nat} {s : RS} {A : Option Addr} {c base e size n : Nat} {v : Value} {xs : List Value} (h : IsR w g s A c) (ho : w.ownsRow base e size v n xs) (hg : w.grownBy w1 v.ownBlock) (he : e ≠ 5) (ht : e ≠ tRd) : IsR w1 g s A c := by
  rcases ho.2 with ⟨rfl, _⟩ | ⟨x, cap, cur, rfl, _, hh, _⟩
  · exact h.below ⟨hg.os, hg.tape, hg.output, hg.size, fun k hk => hg.block k hk (by simp [Value.ownBlock])⟩
  · have hb : Blk w x e cur := hh
    have hA := out_ne h.out hb he
    have hne : some g ≠ some x := by
      intro e1
      injection e1 with e1
      subst e1
      have := h.blk
      unfold Blk at this
      rw [hh] at this
      injection this with this
      injection this with _ this
      exact ht this
    have hg' : w.grownBy w1 (some x) := hg
    exact ⟨(hg'.block g h.blk.lt hne).trans h.blk, (h.rd.grown hg' hA).more hg'.size, h.len, h.cap, out_grown h.out hg' hA⟩
theorem blk_app {w w1 : World} {g t : Nat} {cs : Array Value} {base e size n : Nat} {v : Value} {xs : List Value} (hb : Blk w g t cs) (ho : w.ownsRow base e size v n xs) (hg : w.grownBy w1 v.ownBlock) (ht : t ≠ e) : Blk w1 g t cs :=
  (hg.block g hb.lt (fun e => own_ne ho hb (fun cur hx => by injection hx with _ hx; exact ht hx) e.symm)).trans hb
theorem own_rg {w w1 : World} {g t : Nat} {cs : Array Value} {base e size n : Nat} {v : Value} {xs : List Value} (h : w.ownsRow base e size v n xs) (hb : Blk w g t cs) (hg : w.grownBy w1 (some g)) (ht : t ≠ e) : w1.ownsRow base e size v n xs := by
  refine ⟨h.1, h.2.imp id ?_⟩
  rintro ⟨g', cap, cur, rfl, h2, h3, h4⟩
  refine ⟨g', cap, cur, rfl, h2, (hg.block g' (Array.getElem?_eq_some_iff.1 h3).1 ?_).trans h3, h4⟩
  intro e1
  injection e1 with e1
  subst e1
  unfold Blk at hb
  rw [hb] at h3
  injection h3 with h3
  injection h3 with _ h3
  exact ht h3
theorem blk_rg {w w1 : World} {g g' t : Nat} {cs : Array Value} (h : Blk w g' t cs) (hg : w.grownBy w1 (some g)) (hne : g' ≠ g) : Blk w1 g' t cs := (hg.block g' h.lt (fun e => by injection e with e; exact hne e)).trans h
/-- How many there are, and the error. -/
def countV (s : RS) : Nat := if (numS s 1).e ≠ 0 then 0 else if 32 < numV s 1 then 0 else numV s 1
def countE (s : RS) : Int := if (numS s 1).e ≠ 0 then (numS s 1).e else if 32 < numV s 1 then 13 else 0
theorem countV_le (s : RS) : countV s ≤ 32 := by
  unfold countV
  split
  · omega
  · split
    · omega
    · omega
theorem foldV1 (l : List UInt8) (h : l.length ≤ 1) : foldV l < 256 := by
  match l, h with
  | [], _ => decide
  | [x], _ => have := x.toNat_lt; simp [foldV]; omega
theorem numV1_lt (s : RS) : numV s 1 < 256 := by
  unfold numV
  rw [if_pos (by decide)]
  exact foldV1 _ (takeV_len s 1)
set_option maxHeartbeats 400000 in
theorem count_any (w : World) {g : Nat} {s : RS} {A : Option Addr} {c : Nat} (h : IsR w g s A c) :
    Calls Try.prog 35 #[.pointer (some ⟨g, 0, none⟩), .int .u64 32] w fun e w' => e = .returned (.tuple #[.int .i64 (countV s : Int), .int .i64 (countE s)]) ∧ Rr w' g (numS s 1) ∧ w.grownBy w' (some g) := by
  have hlt := numV1_lt s
  go_enter Try.func35, Try.ntmps35
  go_wp2_with fail
  refine (RNum_any w h 1).mono ?_
  rintro e w1 ⟨rfl, ⟨A1, c1, hR1⟩, hG1⟩
  go_wp2_with fail
  refine (RErr_any w1 hR1).mono ?_
  rintro e w2 ⟨rfl, rfl⟩
  by_cases he : (numS s 1).e = 0
  · have hz : ((numS s 1).e = 0) = True := by simp [he]
    by_cases hb : 32 < numV s 1
    · have hv : countV s = 0 ∧ countE s = 13 := by unfold countV countE; rw [if_neg (by simp [he]), if_pos hb, if_neg (by simp [he]), if_pos hb]; exact ⟨rfl, rfl⟩
      have HV := hid hv
      clear hv
      go_wp2
      go_ret2
      exact ⟨by rw [HV.out.1, HV.out.2]; rfl, ⟨A1, c1, hR1⟩, hG1⟩
    · have hv : countV s = numV s 1 ∧ countE s = 0 := by unfold countV countE; rw [if_neg (by simp [he]), if_neg hb, if_neg (by simp [he]), if_neg hb]; exact ⟨rfl, rfl⟩
      have HV := hid hv
      clear hv
      have hw1 : IntKind.i64.wrap (numV s 1 : Int) = (numV s 1 : Int) := wr_i64 _ (by omega) (by omega)
      go_wp2
      go_ret2
      exact ⟨by rw [HV.out.1, HV.out.2]; rfl, ⟨A1, c1, hR1⟩, hG1⟩
  · have hv : countV s = 0 ∧ countE s = (numS s 1).e := by unfold countV countE; rw [if_pos he, if_pos he]; exact ⟨rfl, rfl⟩
    have HV := hid hv
    clear hv
    go_wp2
    go_ret2
    exact ⟨by rw [HV.out.1, HV.out.2]; rfl, ⟨A1, c1, hR1⟩, hG1⟩
end Go.Proofs.Ythbmmilefimpaaa
