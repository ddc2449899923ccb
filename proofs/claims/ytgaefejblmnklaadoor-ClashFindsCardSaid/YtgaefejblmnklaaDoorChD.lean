
/- Closures that gather hashes: what they keep. -/
import Derived.Test.YtgaefejblmnklaaDoorTreeR
import Derived.Test.YtgaefejblmnklaaDoorShaI
namespace Go.Proofs.YtgaefejblmnklaaDoor
open Go.RowKit
set_option linter.unusedVariables false
abbrev tHs : Nat := 27
theorem elHs : ElT Tryd.prog 27 23 32 32 (Value.agg (List.replicate 32 (cb 0)).toArray).cells := elT_of Tryd.underlying27 (by kernel_rfl) (by rfl) (by decide)
theorem chPut {w w1 : World} {base e size n g t : Nat} {v : Value} {xs : List Value} {cs cs' : Array Value} (h : w.ownsRow base e size v n xs) (hb : Blk w g t cs) (hp : Put w w1 g t cs') (ht : t ≠ e) : w1.ownsRow base e size v n xs := by
  refine ⟨h.1, h.2.imp id ?_⟩
  rintro ⟨g', cap, cur, rfl, h2, h3, h4⟩
  refine ⟨g', cap, cur, rfl, h2, (hp.oth g' ?_).trans h3, h4⟩
  rintro rfl
  unfold Blk at hb
  rw [hb] at h3
  injection h3 with h3
  injection h3 with _ h3
  exact ht h3
/-- The two captured variables: the hashes so far, and the closure itself. -/
structure Cap (w : World) (B go gd : Nat) (tf : Nat) (fn : Value) (vo : Value) (hs : List (List UInt8)) : Prop where
  bo : Blk w go tHs #[vo]
  bd : Blk w gd tf #[fn]
  own : w.ownsRow B 23 32 vo hs.length (hs.flatten.map cb)
  go : B ≤ go
  gd : B ≤ gd
  sz : B ≤ w.heap.size
theorem Cap.below {w w' : World} {B go gd tf : Nat} {fn vo : Value} {hs : List (List UInt8)} (h : Cap w B go gd tf fn vo hs) (hb : Below w.heap.size w w') : Cap w' B go gd tf fn vo hs :=
  ⟨h.bo.below hb h.bo.lt, h.bd.below hb h.bd.lt, own_keep h.own hb, h.go, h.gd, Nat.le_trans h.sz hb.size⟩
theorem hs_len {hs : List (List UInt8)} (h : ∀ x ∈ hs, x.length = 32) : hs.flatten.length = hs.length * 32 := by
  induction hs with
  | nil => rfl
  | cons a r ih =>
    rw [List.flatten_cons, List.length_append, ih (fun x hx => h x (List.mem_cons_of_mem _ hx)), h a List.mem_cons_self, List.length_cons]
    omega
/-- Behind an append of one hash. -/
theorem Cap.app {w w1 w2 : World} {B go gd tf : Nat} {fn vo v : Value} {hs : List (List UInt8)} {h : List UInt8} (hc : Cap w B go gd tf fn vo hs) (hg : w.grownBy w1 vo.ownBlock) (hown : w1.ownsRow B 23 32 v (hs.length + 1) (hs.flatten.map cb ++ h.map cb)) (htf : tf ≠ 23) (htf2 : tf ≠ tHs)
    (hp : Put w1 w2 go tHs #[v]) : Cap w2 B go gd tf fn v (hs ++ [h]) ∧ Below B w w2 := by
  have n1 : vo.ownBlock ≠ some go := own_ne hc.own hc.bo (fun cur hx => by cases hx)
  have n2 : vo.ownBlock ≠ some gd := own_ne hc.own hc.bd (fun cur hx => by injection hx with _ h2; exact htf h2)
  have b1 : Blk w1 go tHs #[vo] := (hg.block go hc.bo.lt (fun e => n1 e.symm)).trans hc.bo
  have b2 : Blk w1 gd tf #[fn] := (hg.block gd hc.bd.lt (fun e => n2 e.symm)).trans hc.bd
  have hne : gd ≠ go := by
    rintro rfl
    have := hc.bd
    unfold Blk at this
    have h2 := hc.bo
    unfold Blk at h2
    rw [this] at h2
    injection h2 with h2
    injection h2 with _ h2
    exact htf2 h2
  have ho : w1.ownsRow B 23 32 v (hs ++ [h]).length ((hs ++ [h]).flatten.map cb) := by
    rw [List.length_append, List.flatten_append, List.map_append]
    simpa using hown
  have hb1 : Below B w w1 := (Below.refl B w).grown hg hc.sz fun k hk => (hc.own.lt k hk).1
  exact ⟨⟨hp.blk, hp.other b2 hne, chPut ho b1 hp (by decide), hc.go, hc.gd, by rw [hp.size]; exact Nat.le_trans hc.sz hg.size⟩, hb1.trans (hp.below hc.go)⟩
theorem bx_low {B : Nat} {w w1 w2 : World} (h : Below B w w1) (k : Below w1.heap.size w1 w2) (hB : B ≤ w1.heap.size) : Below B w w2 := h.trans (k.mono hB)
theorem prf_le : ∀ (n : Nat) (ls : List (List UInt8)) (m : Nat) (w : Bool), ls.length = n → 1 ≤ n → (prf ls m w).length ≤ n := by
  intro n
  induction n using Nat.strongRecOn with
  | ind n ih =>
    intro ls m w hn h1
    by_cases h : 1 ≤ m ∧ m < n
    · have hlt := split_lt (n := n) (by omega)
      have hpos := split_pos (n := n) (by omega)
      by_cases hle : m ≤ splitN n
      · rw [prf_left w h.1 (by omega) (by rw [hn]; exact hle), List.length_append]
        have := ih (splitN n) hlt (ls.take (splitN ls.length)) m w (by rw [len_take_split, hn]) hpos
        simp only [List.length_cons, List.length_nil]
        omega
      · rw [prf_right w h.1 (by omega) (by rw [hn]; exact hle), List.length_append]
        have := ih (n - splitN n) (by omega) (ls.drop (splitN ls.length)) (m - splitN ls.length) false (by rw [List.length_drop, hn]) (by omega)
        simp only [List.length_cons, List.length_nil]
        omega
    · rw [prf_end w (by rw [hn]; exact h)]
      cases w <;> simp <;> omega
theorem pth_le : ∀ (n : Nat) (ls : List (List UInt8)) (i : Nat), ls.length = n → 1 ≤ n → (pth ls i).length ≤ n := by
  intro n
  induction n using Nat.strongRecOn with
  | ind n ih =>
    intro ls i hn h1
    by_cases h : 2 ≤ n
    · have hlt := split_lt (n := n) (by omega)
      have hpos := split_pos (n := n) (by omega)
      by_cases hle : i < splitN n
      · rw [pth_left (by omega) (by rw [hn]; exact hle), List.length_append]
        have := ih (splitN n) hlt (ls.take (splitN ls.length)) i (by rw [len_take_split, hn]) hpos
        simp only [List.length_cons, List.length_nil]
        omega
      · rw [pth_right (by omega) (by rw [hn]; exact hle), List.length_append]
        have := ih (n - splitN n) (by omega) (ls.drop (splitN ls.length)) (i - splitN ls.length) (by rw [List.length_drop, hn]) (by omega)
        simp only [List.length_cons, List.length_nil]
        omega
    · rw [pth_end (by omega)]
      exact Nat.zero_le _
end Go.Proofs.YtgaefejblmnklaaDoor
