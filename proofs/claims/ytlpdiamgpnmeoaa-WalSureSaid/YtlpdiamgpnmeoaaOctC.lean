
/- octet: the reader. -/
import Derived.Test.YtlpdiamgpnmeoaaOctB
namespace Go.Proofs.Ytlpdiamgpnmeoaa
open Go.RowKit
set_option linter.unusedVariables false

/-- A reader by values: what is left, the first error. -/
structure RS where
  b : List UInt8
  e : Int
def argS (s : RS) : RS := if s.e = 0 then { s with e := 1 } else s
def takeS (s : RS) (n : Nat) : RS := if s.e = 0 then if s.b.length < n then { s with e := 10 } else { s with b := s.b.drop n } else s
def takeV (s : RS) (n : Nat) : List UInt8 := if s.e = 0 then if s.b.length < n then [] else s.b.take n else []
def foldV (l : List UInt8) : Nat := l.foldl (fun x c => x * 256 + c.toNat) 0
def numS (s : RS) (n : Int) : RS := if mayB n then takeS s n.toNat else argS s
def numV (s : RS) (n : Int) : Nat := if mayB n then foldV (takeV s n.toNat) else 0
def rawS (s : RS) (n : Int) : RS := if n < 0 then argS s else takeS s n.toNat
def rawV (s : RS) (n : Int) : List UInt8 := if n < 0 then [] else takeV s n.toNat
def bytesS (s : RS) (most : Int) : RS := if (numS s 2).e ≠ 0 then numS s 2 else if most < 0 ∨ most < (numV s 2 : Int) then { numS s 2 with e := 13 } else rawS (numS s 2) (numV s 2 : Int)
def bytesV (s : RS) (most : Int) : List UInt8 := if (numS s 2).e ≠ 0 then [] else if most < 0 ∨ most < (numV s 2 : Int) then [] else rawV (numS s 2) (numV s 2 : Int)
def hashV (s : RS) : List UInt8 := if (takeV s 32).length = 32 then takeV s 32 else List.replicate 32 0
def endE (s : RS) : Int := if s.e ≠ 0 then s.e else if s.b.length = 0 then 0 else 12
structure IsR (w : World) (g : Nat) (s : RS) (A : Option Addr) (c : Nat) : Prop where
  blk : Blk w g tRd #[.slice A s.b.length c, .int .i64 s.e]
  rd : Rd w w.heap.size A (s.b.map cb)
  len : s.b.length ≤ c
  cap : c ≤ maxLen
  out : ∀ a, A = some a → ∃ cs fr, w.heap[a.block]? = some (.cells cs 5 fr)
def Rr (w : World) (g : Nat) (s : RS) : Prop := ∃ A c, IsR w g s A c
theorem IsR.ne {w : World} {g : Nat} {s : RS} {A : Option Addr} {c : Nat} (h : IsR w g s A c) {a : Addr} (hA : A = some a) : a.block ≠ g := by
  rintro rfl
  obtain ⟨cs, fr, hh⟩ := h.out a hA
  have := h.blk
  unfold Blk at this
  rw [hh] at this
  injection this with this
  injection this with _ ht
  exact absurd ht (by decide)
theorem rg_trans {w w1 w2 : World} {g : Nat} (h : w.grownBy w1 (some g)) (h' : w1.grownBy w2 (some g)) : w.grownBy w2 (some g) :=
  ⟨h'.os.trans h.os, h'.tape.trans h.tape, h'.output.trans h.output, Nat.le_trans h.size h'.size, fun k hk hg => (h'.block k (Nat.lt_of_lt_of_le hk h.size) hg).trans (h.block k hk hg)⟩
theorem rg_below {w w1 : World} {g : Nat} (h : Below w.heap.size w w1) : w.grownBy w1 (some g) := ⟨h.os, h.tape, h.output, h.size, fun k hk _ => h.block k hk⟩
theorem rg_put {w w1 : World} {g : Nat} {t : TypeId} {cs : Array Value} (h : Put w w1 g t cs) : w.grownBy w1 (some g) := ⟨h.os, h.tape, h.output, Nat.le_of_eq h.size.symm, fun k _ hg => h.oth k (fun e => hg (by rw [e]))⟩
theorem below_rg {w w1 : World} {g B : Nat} (h : w.grownBy w1 (some g)) (hB : B ≤ g) (hw : B ≤ w.heap.size) : Below B w w1 := (Below.refl B w).grown h hw (fun k e => by injection e with e; omega)
theorem Rd.grown {w w1 : World} {g B' : Nat} {A : Option Addr} {xs : List Value} (hr : Rd w B' A xs) (hg : w.grownBy w1 (some g)) (hne : ∀ a, A = some a → a.block ≠ g) : Rd w1 B' A xs := by
  rcases hr with hr | ⟨b, off, rfl, hlt, hc⟩
  · exact .inl hr
  · cases xs with
    | nil => exact .inl rfl
    | cons x xs =>
      have hb := World.block_lt_of_cell? w _ (hc 0 x rfl)
      have hk := hg.block b hb (fun e => by injection e with e; exact hne _ rfl e)
      exact .inr ⟨b, off, rfl, hlt, fun i v hv => (World.cell?_of_block hk).trans (hc i v hv)⟩
theorem out_grown {w w1 : World} {g : Nat} {A : Option Addr} (ho : ∀ a, A = some a → ∃ cs fr, w.heap[a.block]? = some (.cells cs 5 fr)) (hg : w.grownBy w1 (some g)) (hne : ∀ a, A = some a → a.block ≠ g) :
    ∀ a, A = some a → ∃ cs fr, w1.heap[a.block]? = some (.cells cs 5 fr) := fun a e => by
  obtain ⟨cs, fr, h⟩ := ho a e
  exact ⟨cs, fr, (hg.block _ (Array.getElem?_eq_some_iff.1 h).1 (fun e2 => by injection e2 with e2; exact hne a e e2)).trans h⟩
theorem IsR.below {w w1 : World} {g : Nat} {s : RS} {A : Option Addr} {c : Nat} (h : IsR w g s A c) (hb : Below w.heap.size w w1) : IsR w1 g s A c :=
  ⟨h.blk.below hb h.blk.lt, (h.rd.below hb).more hb.size, h.len, h.cap, fun a e => by
    obtain ⟨cs, fr, hh⟩ := h.out a e
    exact ⟨cs, fr, (hb.block _ (Array.getElem?_eq_some_iff.1 hh).1).trans hh⟩⟩
theorem Rr.below {w w1 : World} {g : Nat} {s : RS} (h : Rr w g s) (hb : Below w.heap.size w w1) : Rr w1 g s := by
  obtain ⟨A, c, h⟩ := h
  exact ⟨A, c, h.below hb⟩
/-- The error is written. -/
theorem IsR.setE {w w1 : World} {g : Nat} {s : RS} {A : Option Addr} {c : Nat} (h : IsR w g s A c) {e : Int} (hp : Put w w1 g tRd #[.slice A s.b.length c, .int .i64 e]) : IsR w1 g { s with e := e } A c :=
  ⟨hp.blk, (h.rd.grown (rg_put hp) (fun a e => h.ne e)).more (Nat.le_of_eq hp.size.symm), h.len, h.cap, out_grown h.out (rg_put hp) (fun a e => h.ne e)⟩
theorem own_out {w : World} {base : Nat} {n : Nat} {v : Value} {xs : List Value} (h : w.ownsRow base 5 1 v n xs) {A : Option Addr} {m c : Nat} (hv : v = .slice A m c) : ∀ a, A = some a → ∃ cs fr, w.heap[a.block]? = some (.cells cs 5 fr) := by
  intro a e
  rcases h.2 with ⟨h1, _⟩ | ⟨g, cap, cur, h1, _, hh, _⟩
  · rw [h1] at hv
    injection hv with hv
    rw [← hv] at e
    cases e
  · rw [h1] at hv
    injection hv with hv
    rw [← hv] at e
    injection e with e
    subst e
    exact ⟨cur, _, hh⟩
set_option maxHeartbeats 400000 in
theorem NewReader_any (w : World) {A : Option Addr} {c B' : Nat} {l : List UInt8} (hr : Rd w B' A (l.map cb)) (hl : l.length ≤ 1000000000) :
    Calls Try.prog 37 #[.slice A l.length c] w fun e w' => ∃ g, e = .returned (.pointer (some ⟨g, 0, none⟩)) ∧ Rr w' g ⟨l, 0⟩ ∧ w.heap.size ≤ g ∧ Below w.heap.size w w' := by
  go_enter Try.func37, Try.ntmps37
  go_wp2_with fail
  refine (Clone_any w hr hl).mono ?_
  rintro e w1 ⟨v, rfl, hown, hb⟩
  obtain ⟨A1, c1, rfl, hc1, hm1, hrd1⟩ := own_form hown
  have hout1 := own_out hown rfl
  clear hown
  go_wp2
  go_ret
  have hb2 : Below w1.heap.size w1 (w1.alloc (.cells #[.slice A1 l.length c1, .int .i64 0] tRd)) := bx_alloc (Below.refl _ _) _
  exact ⟨w1.heap.size, rfl, ⟨A1, c1, Blk.new w1 tRd #[.slice A1 l.length c1, .int .i64 0], (hrd1.below hb2).more hb2.size, hc1, hm1, fun a e => by
    obtain ⟨cs, fr, hh⟩ := hout1 a e
    exact ⟨cs, fr, (hb2.block _ (Array.getElem?_eq_some_iff.1 hh).1).trans hh⟩⟩, hb.size, bx_trans hb hb2⟩
set_option maxHeartbeats 400000 in
theorem RErr_any (w : World) {g : Nat} {s : RS} {A : Option Addr} {c : Nat} (h : IsR w g s A c) : Calls Try.prog 43 #[.pointer (some ⟨g, 0, none⟩)] w fun e w' => e = .returned (.int .i64 s.e) ∧ w = w' := by
  have c1 : w.cell? ⟨g, 1, none⟩ = some (.int .i64 s.e) := h.blk.cell 1
  go_enter Try.func43, Try.ntmps43
  go_wp2
  go_ret
  exact ⟨rfl, rfl⟩
set_option maxHeartbeats 400000 in
theorem RErr_nil (w : World) : Calls Try.prog 43 #[.pointer none] w fun e w' => e = .returned (.int .i64 1) ∧ w = w' := by
  go_enter Try.func43, Try.ntmps43
  go_wp2
  go_ret
  exact ⟨rfl, rfl⟩
set_option maxHeartbeats 400000 in
theorem Rarg_any (w : World) {g : Nat} {s : RS} {A : Option Addr} {c : Nat} (h : IsR w g s A c) : Calls Try.prog 56 #[.pointer (some ⟨g, 0, none⟩)] w fun e w' => e = .returned (.tuple #[]) ∧ IsR w' g (argS s) A c ∧ w.grownBy w' (some g) := by
  have c1 : w.cell? ⟨g, 1, none⟩ = some (.int .i64 s.e) := h.blk.cell 1
  have f1 := h.blk.frozen 1
  unfold argS
  by_cases he : s.e = 0
  · rw [if_pos he]
    rw [he] at c1
    have hp := setCell_put h.blk (i := 1) (.int .i64 1)
    have hfin := h.setE (e := 1) hp
    have hrg := rg_put hp
    have HF := hid hfin
    have HR := hid hrg
    clear he hp hfin hrg
    go_enter Try.func56, Try.ntmps56
    go_wp2
    go_end0
    exact ⟨rfl, HF.out, HR.out⟩
  · rw [if_neg he]
    have he2 : (s.e == 0) = false := by simpa using he
    clear he
    go_enter Try.func56, Try.ntmps56
    go_wp2
    go_end0
    exact ⟨rfl, h, rg_below (Below.refl _ _)⟩
end Go.Proofs.Ytlpdiamgpnmeoaa
