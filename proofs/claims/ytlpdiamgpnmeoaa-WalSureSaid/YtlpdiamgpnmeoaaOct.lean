
/- octet: the writer, and its methods. -/
import Derived.Test.YtlpdiamgpnmeoaaRows
import Derived.Test.YtlpdiamgpnmeoaaFlowQ
import Derived.Test.YtlpdiamgpnmeoaaBuild
namespace Go.Proofs.Ytlpdiamgpnmeoaa
open Go.RowKit
set_option linter.unusedVariables false

abbrev tWr : Nat := 101
abbrev tRd : Nat := 96
theorem elB8 : ElT Try.prog 23 5 1 1 #[.int .u8 0] := elT_of (z := .int .u8 0) Try.underlying23 (by kernel_rfl) rfl (by decide)
def byN (n : Nat) : UInt8 := UInt8.ofNat (n % 256)
theorem byN_toNat (n : Nat) : (byN n).toNat = n % 256 := by
  unfold byN
  rw [UInt8.toNat_ofNat']
  omega
theorem u8_shr (X i : Nat) : IntKind.u8.wrap ((X : Int) / 2 ^ i) = (((byN (X / 2 ^ i)).toNat : Nat) : Int) := by
  rw [byN_toNat]
  simp [IntKind.wrap, IntKind.bits, IntKind.signed]
/-- A number in so many bytes, the highest first. -/
def numL (x size : Nat) : List UInt8 := (List.range size).map fun i => byN (x / 2 ^ (8 * (size - 1 - i)))
theorem numL_length (x size : Nat) : (numL x size).length = size := by simp [numL]
theorem numL_take (x size i : Nat) (h : i < size) : (numL x size).take (i + 1) = (numL x size).take i ++ [byN (x / 2 ^ (8 * (size - 1 - i)))] := by
  rw [List.take_succ_eq_append_getElem (by rw [numL_length]; exact h)]
  simp [numL]
def mayB (size : Int) : Bool := decide (1 ≤ size) && decide (size ≤ 8)
def numW (x : Nat) (size : Int) : List UInt8 := if mayB size then numL x size.toNat else []
def bytesW (b : List UInt8) : List UInt8 := numL (min b.length 65535) 2 ++ b.take 65535
/-- At block g lies a writer that has put l; all that is its own lies at or above B. -/
structure IsW (w : World) (B g : Nat) (l : List UInt8) (A : Option Addr) (c : Nat) : Prop where
  blk : Blk w g tWr #[.slice A l.length c]
  own : w.ownsRow B 5 1 (.slice A l.length c) l.length (l.map cb)
  gB : B ≤ g
def Wr (w : World) (B g : Nat) (l : List UInt8) : Prop := ∃ A c, IsW w B g l A c
theorem own_keep {w w' : World} {base e size n : Nat} {v : Value} {xs : List Value} (h : w.ownsRow base e size v n xs) (hb : Below w.heap.size w w') : w'.ownsRow base e size v n xs := by
  refine h.kept (row := none) ⟨hb.os, hb.tape, hb.output, hb.size, fun k hk _ => hb.block k hk⟩ ?_
  cases hv : v.ownBlock with
  | none => exact .inl rfl
  | some a => exact .inr (by simp)
theorem Wr.below {w w' : World} {B g : Nat} {l : List UInt8} (h : Wr w B g l) (hb : Below w.heap.size w w') : Wr w' B g l := by
  obtain ⟨A, c, h1, h2, h3⟩ := h
  exact ⟨A, c, h1.below hb h1.lt, own_keep h2 hb, h3⟩
set_option maxHeartbeats 400000 in
theorem NewWriter_any (w : World) : Calls Try.prog 45 #[] w fun e w' => ∃ g, e = .returned (.pointer (some ⟨g, 0, none⟩)) ∧ IsW w' w.heap.size g [] none 0 ∧ Below w.heap.size w w' := by
  go_enter Try.func45, Try.ntmps45
  go_wp2
  go_ret
  exact ⟨_, rfl, ⟨Blk.new w tWr #[.slice none 0 0], World.ownsRow_nil _ _ _ _, Nat.le_refl _⟩, bx_alloc (Below.refl _ _) _⟩
set_option maxHeartbeats 400000 in
theorem may_any (w : World) (n : Int) : Calls Try.prog 55 #[.int .i64 n] w fun e w' => e = .returned (.bool (mayB n)) ∧ w = w' := by
  unfold mayB
  by_cases h1 : 1 ≤ n
  · go_enter Try.func55, Try.ntmps55
    go_wp2
    go_ret
    exact ⟨ret_val (by simp [h1]), rfl⟩
  · go_enter Try.func55, Try.ntmps55
    go_wp2
    go_ret
    exact ⟨ret_val (by simp; omega), rfl⟩
/-- A writer's call: from one that has put l to one that has put l'; what else there is, is as it was. -/
structure WGo (w w' : World) (B g : Nat) (l l' : List UInt8) (A : Option Addr) (c : Nat) (A' : Option Addr) (c' : Nat) : Prop where
  isW : IsW w' B g l' A' c'
  below : Below B w w'
  keep : ∀ k, k < w.heap.size → k ≠ g → (Value.slice A l.length c).ownBlock ≠ some k → w'.heap[k]? = w.heap[k]? ∧ (Value.slice A' l'.length c').ownBlock ≠ some k
theorem WGo.refl {w : World} {B g : Nat} {l : List UInt8} {A : Option Addr} {c : Nat} (h : IsW w B g l A c) : WGo w w B g l l A c A c := ⟨h, Below.refl _ _, fun _ _ _ h => ⟨rfl, h⟩⟩
theorem WGo.trans {w w1 w2 : World} {B g : Nat} {l l1 l2 : List UInt8} {A A1 A2 : Option Addr} {c c1 c2 : Nat} (h : WGo w w1 B g l l1 A c A1 c1) (h' : WGo w1 w2 B g l1 l2 A1 c1 A2 c2) : WGo w w2 B g l l2 A c A2 c2 :=
  ⟨h'.isW, h.below.trans h'.below, fun k hk hg ho => by
    obtain ⟨e1, o1⟩ := h.keep k hk hg ho
    obtain ⟨e2, o2⟩ := h'.keep k (Nat.lt_of_lt_of_le hk h.below.size) hg o1
    exact ⟨e2.trans e1, o2⟩⟩
theorem WGo.of_below {w w1 : World} {B g : Nat} {l : List UInt8} {A : Option Addr} {c : Nat} (h : IsW w B g l A c) (hb : Below w.heap.size w w1) (hB : B ≤ w.heap.size) : WGo w w1 B g l l A c A c :=
  ⟨⟨h.blk.below hb h.blk.lt, own_keep h.own hb, h.gB⟩, hb.mono hB, fun k hk _ ho => ⟨hb.block k hk, ho⟩⟩
theorem IsW.below {w w1 : World} {B g : Nat} {l : List UInt8} {A : Option Addr} {c : Nat} (h : IsW w B g l A c) (hb : Below w.heap.size w w1) : IsW w1 B g l A c := ⟨h.blk.below hb h.blk.lt, own_keep h.own hb, h.gB⟩
/-- What lies elsewhere reads as it did. -/
theorem WGo.rd {w w1 : World} {B g : Nat} {l l1 : List UInt8} {A A1 : Option Addr} {c c1 : Nat} (h : WGo w w1 B g l l1 A c A1 c1) {b off : Nat} {xs : List Value} {B' : Nat} (hr : Rd w B' (some ⟨b, off, none⟩) xs) (hg : b ≠ g) (ho : (Value.slice A l.length c).ownBlock ≠ some b) : Rd w1 B' (some ⟨b, off, none⟩) xs := by
  rcases hr with hr | ⟨b', o', he, hlt, hc⟩
  · exact .inl hr
  · injection he with he
    injection he with h1 h2
    subst h1 h2
    cases xs with
    | nil => exact .inl rfl
    | cons x xs =>
      have hb := World.block_lt_of_cell? w _ (hc 0 x rfl)
      have hk := (h.keep b hb hg ho).1
      exact .inr ⟨b, off, rfl, hlt, fun i v hv => (World.cell?_of_block hk).trans (hc i v hv)⟩
/-- Behind an append and the store of it the writer is one that has put more. -/
theorem IsW.grown {w w1 w2 : World} {B g : Nat} {l l' : List UInt8} {A A' : Option Addr} {c c' : Nat} (h : IsW w B g l A c) (hg : w.grownBy w1 (Value.slice A l.length c).ownBlock) (hown : w1.ownsRow B 5 1 (.slice A' l'.length c') l'.length (l'.map cb))
    (hat : (Value.slice A' l'.length c').ownBlock = (Value.slice A l.length c).ownBlock ∨ (Value.slice A' l'.length c').ownBlock = some w.heap.size) (hp : Put w1 w2 g tWr #[.slice A' l'.length c']) (hB : B ≤ w.heap.size) : WGo w w2 B g l l' A c A' c' := by
  have hne : (Value.slice A' l'.length c').ownBlock ≠ some g := by
    intro e
    rcases hown.2 with ⟨h1, _⟩ | ⟨g', cap, cur, h1, _, hh, _⟩
    · rw [h1] at e; cases e
    · rw [h1] at e
      injection e with e
      subst e
      have hl : Blk w1 g' tWr #[.slice A l.length c] := (hg.block g' h.blk.lt (fun e => own_ne h.own h.blk (fun cur hx => by cases hx) e.symm)).trans h.blk
      unfold Blk at hl
      rw [hh] at hl
      injection hl with hl
      injection hl with _ ht
      exact absurd ht (by decide)
  refine ⟨⟨hp.blk, hown.kept (row := some g) ⟨hp.os, hp.tape, hp.output, Nat.le_of_eq hp.size.symm, fun k _ hk => hp.oth k (fun e => hk (by rw [e]))⟩ (.inr hne), h.gB⟩, ?_, fun k hk hkg ho => ⟨(hp.oth k hkg).trans (hg.block k hk (fun e => ho e.symm)), ?_⟩⟩
  · exact ((Below.refl B w).grown hg hB (fun k hk => (h.own.lt k hk).1)).trans (hp.below h.gB)
  · rcases hat with e | e
    · rw [e]; exact ho
    · rw [e]; intro e2; injection e2 with e2; omega
theorem IsW.blk_grown {w w1 : World} {B g : Nat} {l : List UInt8} {A : Option Addr} {c : Nat} (h : IsW w B g l A c) (hg : w.grownBy w1 (Value.slice A l.length c).ownBlock) : Blk w1 g tWr #[.slice A l.length c] :=
  (hg.block g h.blk.lt (fun e => own_ne h.own h.blk (fun cur hx => by cases hx) e.symm)).trans h.blk
set_option maxRecDepth 100000 in
set_option maxHeartbeats 1000000 in
theorem WRaw_any (w : World) {B g : Nat} {l : List UInt8} {A : Option Addr} {c : Nat} (h : IsW w B g l A c) {A1 : Option Addr} {c1 B' : Nat} {b : List UInt8} (hr : Rd w B' A1 (b.map cb)) (hB : B ≤ w.heap.size) (hlen : l.length + b.length ≤ 1000000000) :
    Calls Try.prog 47 #[.pointer (some ⟨g, 0, none⟩), .slice A1 b.length c1] w fun e w' => e = .returned (.tuple #[]) ∧ ∃ A' c', WGo w w' B g l (l ++ b) A c A' c' := by
  have c0 : w.cell? ⟨g, 0, none⟩ = some (.slice A l.length c) := h.blk.cell 0
  have hown := h.own
  have hlm : (b.map cb).length = b.length * 1 := by simp
  have h63 : l.length + b.length ≤ maxLen := by unfold maxLen; omega
  have hby : (l.length + b.length) * 1 ≤ 140737488355328 := by omega
  have H := hid h
  clear h
  go_enter Try.func47, Try.ntmps47
  go_wp2_with (at_builtin; refine wpList_app rfl _ _ _ rfl _ rfl _ _ _ rfl elB8 hown hr hlm (one_cb b) h63 hby hB ?_; intro v1 w1 hown1 hg1 hat1; obtain ⟨A2, c2, rfl, hc2, hm2, _⟩ := own_form hown1; have hb1 := H.out.blk_grown hg1; have c01 := hb1.cell 0; have f01 := hb1.frozen 0)
  go_end0
  have hll : l.length + b.length = (l ++ b).length := by rw [List.length_append]
  have hown2 : w1.ownsRow B 5 1 (.slice A2 (l ++ b).length c2) (l ++ b).length ((l ++ b).map cb) := by rw [List.map_append, ← hll]; exact hown1
  have hp := setCell_put hb1 (i := 0) (.slice A2 (l ++ b).length c2)
  have hfin := H.out.grown hg1 hown2 (by rw [← hll]; exact hat1) hp hB
  rw [← hll] at hfin
  exact ⟨rfl, A2, c2, hfin⟩
set_option maxHeartbeats 400000 in
theorem WRaw_nil (w : World) (v : Value) : Calls Try.prog 47 #[.pointer none, v] w fun e w' => e = .returned (.tuple #[]) ∧ w = w' := by
  go_enter Try.func47, Try.ntmps47
  go_wp2
  go_end0
  exact ⟨rfl, rfl⟩
set_option maxHeartbeats 400000 in
theorem WNum_nil (w : World) (x n : Int) : Calls Try.prog 46 #[.pointer none, .int .u64 x, .int .i64 n] w fun e w' => e = .returned (.tuple #[]) ∧ w = w' := by
  go_enter Try.func46, Try.ntmps46
  go_wp2
  refine bodyPost_ret (results_none rfl _ _ _) rfl ?_
  exact ⟨rfl, rfl⟩
theorem wr_i64 (n : Int) (h0 : 0 ≤ n) (h1 : n < 9223372036854775808) : IntKind.i64.wrap n = n := wrap_small n h0 h1
set_option maxRecDepth 100000 in
set_option maxHeartbeats 1000000 in
theorem WNum_any (w : World) {B g : Nat} {l : List UInt8} {A0 : Option Addr} {c0 : Nat} (h : IsW w B g l A0 c0) (hB : B ≤ w.heap.size) (x : Nat) (n : Int) (hlen : l.length ≤ 900000000) :
    Calls Try.prog 46 #[.pointer (some ⟨g, 0, none⟩), .int .u64 (x : Int), .int .i64 n] w fun e w' => e = .returned (.tuple #[]) ∧ ∃ A' c', WGo w w' B g l (l ++ numW x n) A0 c0 A' c' := by
  unfold numW
  by_cases hm : mayB n = true
  · rw [if_pos hm]
    have hm2 := hm
    simp only [mayB, Bool.and_eq_true, decide_eq_true_eq] at hm2
    obtain ⟨n1, n8⟩ := hm2
    obtain ⟨m, rfl⟩ := Int.eq_ofNat_of_zero_le (show 0 ≤ n by omega)
    rw [Int.toNat_natCast]
    have h0 : WGo w w B g l (l ++ (numL x m).take 0) A0 c0 A0 c0 := by simpa using WGo.refl h
    clear h
    go_enter Try.func46, Try.ntmps46
    go_wp2_with fail
    refine (may_any w _).mono ?_
    rintro e w1 ⟨rfl, rfl⟩
    rw [hm]
    clear hm
    go_wp2
    go_loopw [15] (fun j wr => ∃ i : Nat, i ≤ m ∧ j = .int .i64 i ∧ ∃ A c, WGo w wr B g l (l ++ (numL x m).take i) A0 c0 A c) (fun j _ => m - (intOf j).toNat)
    case atStart => exact ⟨0, by omega, rfl, _, _, h0⟩
    case round =>
      obtain ⟨i, hi, rfl, A, c, hG⟩ := hrel
      have hbr := hG.below
      have hW := hG.isW
      have HG := hid hG
      clear hG
      clear h0
      by_cases hlt : i < m
      · obtain ⟨l', hl'⟩ : ∃ l', l' = l ++ (numL x m).take i := ⟨_, rfl⟩
        rw [← hl'] at hW HG
        obtain ⟨k1, hk1⟩ : ∃ k1 : Nat, k1 = m - 1 := ⟨_, rfl⟩
        obtain ⟨k2, hk2⟩ : ∃ k2 : Nat, k2 = m - 1 - i := ⟨_, rfl⟩
        obtain ⟨sh, hsh⟩ : ∃ sh : Nat, sh = 8 * k2 := ⟨_, rfl⟩
        have e1 : (m : Int) - 1 = (k1 : Int) := by omega
        have e2 : (k1 : Int) - (i : Int) = (k2 : Int) := by omega
        have e3 : 8 * (k2 : Int) = (sh : Int) := by omega
        have hs64 : sh ≤ 64 := by omega
        obtain ⟨cc, hcc⟩ : ∃ cc, cc = byN (x / 2 ^ sh) := ⟨_, rfl⟩
        have hu8 := u8_shr x sh
        rw [← hcc] at hu8
        have hnt := numL_take x m i hlt
        rw [← hk2, ← hsh, ← hcc] at hnt
        have hl2 : l ++ (numL x m).take (i + 1) = l' ++ [cc] := by rw [hnt, hl', List.append_assoc]
        have hll : l'.length ≤ 900000008 := by rw [hl', List.length_append, List.length_take, numL_length]; omega
        have HL2 := hid hl2
        clear hl2 hnt hl' hcc hk1 hk2 hsh
        have HW := hid hW
        have c0 : wr.cell? ⟨g, 0, none⟩ = some (.slice A l'.length c) := hW.blk.cell 0
        have hgl := hW.blk.lt
        have hBw := hbr.size
        have h63 : l'.length + 1 ≤ maxLen := by unfold maxLen; omega
        have hby : (l'.length + 1) * 1 ≤ 140737488355328 := by omega
        clear hW
        go_wp2_with fail
        refine wp_flowQ (by kernel_rfl) [0, 0, 2, 6, 14, 0, 0, 64, 0, 448, 960, 2016, 4064, 8160, 16382, 32767, 65535, 131071] 14 [false, false, false, false, false, false, false, false, false, false, false, false, false, false, false, false, false, false, true, true, true, true, true, true, true, true, true, true, true, true, true, true, true, false, false] (by kernel_rfl) (by decide) (by kernel_rfl) [FP.eq (.pointer (some ⟨g, 0, none⟩)), FP.eq (.pointer (some ⟨g, 0, none⟩)), FP.eq (.pointer (some ⟨g, 0, none⟩)), FP.eq (.pointer (some ⟨g, 0, none⟩)), FP.eq (.slice A l'.length c), FP.eq (.int .u64 (x : Int)), FP.eq (.int .i64 (m : Int)), FP.eq (.int .i64 (k1 : Int)), FP.eq (.int .i64 (i : Int)), FP.eq (.int .i64 (k2 : Int)), FP.eq (.int .i64 (sh : Int)), FP.eq (.int .u64 ((x / 2 ^ sh : Nat) : Int)), FP.eq (.int .u8 (cc.toNat : Int)), FP.bytes [cc]] (fun v w2 => ∃ w0 A' c', v = .slice A' (l'.length + 1) c' ∧ Below wr.heap.size wr w0 ∧ IsW w0 B g l' A c ∧ w0.grownBy w2 (Value.slice A l'.length c).ownBlock ∧ ((Value.slice A' (l'.length + 1) c').ownBlock = (Value.slice A l'.length c).ownBlock ∨ (Value.slice A' (l'.length + 1) c').ownBlock = some w0.heap.size) ∧ w2.ownsRow B 5 1 (.slice A' (l'.length + 1) c') (l'.length + 1) ((l' ++ [cc]).map cb)) ?_ (q_of rfl ⟨rfl, ?_⟩) ?_
        · refine allFrom_cons (stepQ_late (by kernel_rfl) rfl ?_) ?_
          · intro a_ w_ hk_
            have h0 : a_.eval (.tmp 0) = .pointer (some ⟨g, 0, none⟩) := hk_ 0 (by kernel_rfl)
            exact gives_move rfl ⟨rfl, fun _ => h0⟩
          refine allFrom_cons (stepQ_yes (by kernel_rfl) ?_) ?_
          · intro a_ w_ hk_
            have h0 : a_.eval (.tmp 0) = .pointer (some ⟨g, 0, none⟩) := hk_.old 0 (by kernel_rfl)
            have hx_ := hk_.ext
            clear hk_
            refine flow_plain rfl ?_
            exact gives_move rfl ⟨Below.refl _ _, h0⟩
          refine allFrom_cons (stepQ_yes (by kernel_rfl) ?_) ?_
          · intro a_ w_ hk_
            have h19 : a_.eval (.tmp 19) = (.pointer (some ⟨g, 0, none⟩)) := hk_.got 1 19 _ (by kernel_rfl) rfl rfl
            have hx_ := hk_.ext
            clear hk_
            refine flow_plain rfl ?_
            unfold gives
            have hc_ : ∀ v, a_.eval (.const v) = v := fun _ => rfl
            have hn_ : ∀ f, a_.eval (.func f) = .func (.func f) #[] #[] := fun _ => rfl
            generalize a_.eval = ρ_ at *
            go_simp
            exact ⟨Below.refl _ _, rfl⟩
          refine allFrom_cons (stepQ_yes (by kernel_rfl) ?_) ?_
          · intro a_ w_ hk_
            have h20 : a_.eval (.tmp 20) = (.pointer (some ⟨g, 0, none⟩)) := hk_.got 2 20 _ (by kernel_rfl) rfl rfl
            have hx_ := hk_.ext
            clear hk_
            refine flow_plain rfl ?_
            unfold gives
            have hc_ : ∀ v, a_.eval (.const v) = v := fun _ => rfl
            have hn_ : ∀ f, a_.eval (.func f) = .func (.func f) #[] #[] := fun _ => rfl
            generalize a_.eval = ρ_ at *
            go_simp
            exact ⟨Below.refl _ _, rfl⟩
          refine allFrom_cons (stepQ_yes (by kernel_rfl) ?_) ?_
          · intro a_ w_ hk_
            have h21 : a_.eval (.tmp 21) = (.pointer (some ⟨g, 0, none⟩)) := hk_.got 3 21 _ (by kernel_rfl) rfl rfl
            have hx_ := hk_.ext
            clear hk_
            refine flow_plain rfl ?_
            unfold gives
            have hc_ : ∀ v, a_.eval (.const v) = v := fun _ => rfl
            have hn_ : ∀ f, a_.eval (.func f) = .func (.func f) #[] #[] := fun _ => rfl
            have hcell := (hx_.cell (p := ⟨g, 0, none⟩) hgl).trans c0
            generalize a_.eval = ρ_ at *
            go_simp
            exact ⟨Below.refl _ _, rfl⟩
          refine allFrom_cons (stepQ_yes (by kernel_rfl) ?_) ?_
          · intro a_ w_ hk_
            have h1 : a_.eval (.tmp 1) = .int .u64 (x : Int) := hk_.old 1 (by kernel_rfl)
            have hx_ := hk_.ext
            clear hk_
            refine flow_plain rfl ?_
            exact gives_move rfl ⟨Below.refl _ _, h1⟩
          refine allFrom_cons (stepQ_yes (by kernel_rfl) ?_) ?_
          · intro a_ w_ hk_
            have h2 : a_.eval (.tmp 2) = .int .i64 (m : Int) := hk_.old 2 (by kernel_rfl)
            have hx_ := hk_.ext
            clear hk_
            refine flow_plain rfl ?_
            exact gives_move rfl ⟨Below.refl _ _, h2⟩
          refine allFrom_cons (stepQ_yes (by kernel_rfl) ?_) ?_
          · intro a_ w_ hk_
            have h24 : a_.eval (.tmp 24) = (.int .i64 (m : Int)) := hk_.got 6 24 _ (by kernel_rfl) rfl rfl
            have hx_ := hk_.ext
            clear hk_
            refine flow_plain rfl ?_
            unfold gives
            have hc_ : ∀ v, a_.eval (.const v) = v := fun _ => rfl
            have hn_ : ∀ f, a_.eval (.func f) = .func (.func f) #[] #[] := fun _ => rfl
            generalize a_.eval = ρ_ at *
            go_simp
            exact ⟨Below.refl _ _, congrArg (Value.int _) (wr_i64 _ (by omega) (by omega))⟩
          refine allFrom_cons (stepQ_yes (by kernel_rfl) ?_) ?_
          · intro a_ w_ hk_
            have h6 : a_.eval (.tmp 6) = .int .i64 (i : Int) := hk_.old 6 (by kernel_rfl)
            have hx_ := hk_.ext
            clear hk_
            refine flow_plain rfl ?_
            exact gives_move rfl ⟨Below.refl _ _, h6⟩
          refine allFrom_cons (stepQ_yes (by kernel_rfl) ?_) ?_
          · intro a_ w_ hk_
            have h25 : a_.eval (.tmp 25) = (.int .i64 (k1 : Int)) := hk_.got 7 25 _ (by kernel_rfl) rfl rfl
            have h26 : a_.eval (.tmp 26) = (.int .i64 (i : Int)) := hk_.got 8 26 _ (by kernel_rfl) rfl rfl
            have hx_ := hk_.ext
            clear hk_
            refine flow_plain rfl ?_
            unfold gives
            have hc_ : ∀ v, a_.eval (.const v) = v := fun _ => rfl
            have hn_ : ∀ f, a_.eval (.func f) = .func (.func f) #[] #[] := fun _ => rfl
            generalize a_.eval = ρ_ at *
            go_simp
            exact ⟨Below.refl _ _, congrArg (Value.int _) (wr_i64 _ (by omega) (by omega))⟩
          refine allFrom_cons (stepQ_yes (by kernel_rfl) ?_) ?_
          · intro a_ w_ hk_
            have h27 : a_.eval (.tmp 27) = (.int .i64 (k2 : Int)) := hk_.got 9 27 _ (by kernel_rfl) rfl rfl
            have hx_ := hk_.ext
            clear hk_
            refine flow_plain rfl ?_
            unfold gives
            have hc_ : ∀ v, a_.eval (.const v) = v := fun _ => rfl
            have hn_ : ∀ f, a_.eval (.func f) = .func (.func f) #[] #[] := fun _ => rfl
            generalize a_.eval = ρ_ at *
            go_simp
            exact ⟨Below.refl _ _, congrArg (Value.int _) (wr_i64 _ (by omega) (by omega))⟩
          refine allFrom_cons (stepQ_yes (by kernel_rfl) ?_) ?_
          · intro a_ w_ hk_
            have h23 : a_.eval (.tmp 23) = (.int .u64 (x : Int)) := hk_.got 5 23 _ (by kernel_rfl) rfl rfl
            have h28 : a_.eval (.tmp 28) = (.int .i64 (sh : Int)) := hk_.got 10 28 _ (by kernel_rfl) rfl rfl
            have hx_ := hk_.ext
            clear hk_
            refine flow_plain rfl ?_
            unfold gives
            have hc_ : ∀ v, a_.eval (.const v) = v := fun _ => rfl
            have hn_ : ∀ f, a_.eval (.func f) = .func (.func f) #[] #[] := fun _ => rfl
            generalize a_.eval = ρ_ at *
            go_simp
            exact ⟨Below.refl _ _, rfl⟩
          refine allFrom_cons (stepQ_yes (by kernel_rfl) ?_) ?_
          · intro a_ w_ hk_
            have h29 : a_.eval (.tmp 29) = (.int .u64 ((x / 2 ^ sh : Nat) : Int)) := hk_.got 11 29 _ (by kernel_rfl) rfl rfl
            have hx_ := hk_.ext
            clear hk_
            refine flow_plain rfl ?_
            unfold gives
            have hc_ : ∀ v, a_.eval (.const v) = v := fun _ => rfl
            have hn_ : ∀ f, a_.eval (.func f) = .func (.func f) #[] #[] := fun _ => rfl
            generalize a_.eval = ρ_ at *
            go_simp
            exact ⟨Below.refl _ _, rfl⟩
          refine allFrom_cons (stepQ_yes (by kernel_rfl) ?_) ?_
          · intro a_ w_ hk_
            have h30 : a_.eval (.tmp 30) = (.int .u8 (cc.toNat : Int)) := hk_.got 12 30 _ (by kernel_rfl) rfl rfl
            have hx_ := hk_.ext
            clear hk_
            refine flow_plain rfl ?_
            unfold gives
            have hc_ : ∀ v, a_.eval (.const v) = v := fun _ => rfl
            have hn_ : ∀ f, a_.eval (.func f) = .func (.func f) #[] #[] := fun _ => rfl
            generalize a_.eval = ρ_ at *
            go_simp
            exact ⟨bx_alloc (Below.refl _ _) _, rdB_of_row (heap_new rfl) rfl rfl (by simp)⟩
          exact allFrom_nil
        · intro a_ w_ hk_
          have h22 : a_.eval (.tmp 22) = (.slice A l'.length c) := hk_.got 4 22 _ (by kernel_rfl) rfl rfl
          have h31 : (FP.bytes [cc]).p (a_.eval (.tmp 31)) w_ := hk_.got 13 31 _ (by kernel_rfl) rfl rfl
          have hx_ := hk_.ext
          clear hk_
          obtain ⟨A31, c31, h31, m31, r31⟩ := h31
          have hEw : IsW w_ B g l' A c := ⟨HW.out.blk.below hx_ HW.out.blk.lt, own_keep HW.out.own hx_, HW.out.gB⟩
          have hbs : B ≤ w_.heap.size := by have := hx_.size; omega
          refine gives_appK _ _ _ rfl (.slice A l'.length c) h22 A31 1 c31 h31 elB8 hEw.own r31 rfl (one_cb [cc]) h63 hby hbs fun v' w' hown2 hg2 hat2 => ?_
          obtain ⟨A', c', rfl, _⟩ := own_form hown2
          exact ⟨w_, A', c', rfl, hx_, hEw, hg2, hat2, by rw [List.map_append]; exact hown2⟩
        intro f_ w_ hf_ ht_
        have h18 : f_ 18 = (.pointer (some ⟨g, 0, none⟩)) := (hf_ 0 18 _ (by decide) rfl rfl).elim fun _ h => h
        have h19 : f_ 19 = (.pointer (some ⟨g, 0, none⟩)) := (hf_ 1 19 _ (by decide) rfl rfl).elim fun _ h => h
        have h20 : f_ 20 = (.pointer (some ⟨g, 0, none⟩)) := (hf_ 2 20 _ (by decide) rfl rfl).elim fun _ h => h
        have h21 : f_ 21 = (.pointer (some ⟨g, 0, none⟩)) := (hf_ 3 21 _ (by decide) rfl rfl).elim fun _ h => h
        have h22 : f_ 22 = (.slice A l'.length c) := (hf_ 4 22 _ (by decide) rfl rfl).elim fun _ h => h
        have h23 : f_ 23 = (.int .u64 (x : Int)) := (hf_ 5 23 _ (by decide) rfl rfl).elim fun _ h => h
        have h24 : f_ 24 = (.int .i64 (m : Int)) := (hf_ 6 24 _ (by decide) rfl rfl).elim fun _ h => h
        have h25 : f_ 25 = (.int .i64 (k1 : Int)) := (hf_ 7 25 _ (by decide) rfl rfl).elim fun _ h => h
        have h26 : f_ 26 = (.int .i64 (i : Int)) := (hf_ 8 26 _ (by decide) rfl rfl).elim fun _ h => h
        have h27 : f_ 27 = (.int .i64 (k2 : Int)) := (hf_ 9 27 _ (by decide) rfl rfl).elim fun _ h => h
        have h28 : f_ 28 = (.int .i64 (sh : Int)) := (hf_ 10 28 _ (by decide) rfl rfl).elim fun _ h => h
        have h29 : f_ 29 = (.int .u64 ((x / 2 ^ sh : Nat) : Int)) := (hf_ 11 29 _ (by decide) rfl rfl).elim fun _ h => h
        have h30 : f_ 30 = (.int .u8 (cc.toNat : Int)) := (hf_ 12 30 _ (by decide) rfl rfl).elim fun _ h => h
        have ht := ht_ 32 _ rfl rfl
        clear ht_
        simp only [mix, List.drop_succ_cons, List.drop_zero, h18, h19, h20, h21, h22, h23, h24, h25, h26, h27, h28, h29, h30]
        clear h18 h19 h20 h21 h22 h23 h24 h25 h26 h27 h28 h29 h30
        clear hf_
        obtain ⟨w0, A', c', h32, hb0, hW0, hg2, hat2, hown2⟩ := ht
        rw [h32]
        have hbk := hW0.blk_grown hg2
        have c02 := hbk.cell 0
        have f02 := hbk.frozen 0
        have hp := setCell_put hbk (i := 0) (.slice A' (l'.length + 1) c')
        have hlc : l'.length + 1 = (l' ++ [cc]).length := by simp
        have hfin := hW0.grown (l' := l' ++ [cc]) hg2 (by rw [← hlc]; exact hown2) (by rw [← hlc]; exact hat2) (by rw [← hlc]; exact hp) (by have := hb0.size; omega)
        have HFIN := hid ((HG.out.trans (WGo.of_below HW.out hb0 (by omega))).trans hfin)
        clear hfin hp hown2 hg2 hW0 hbk hlc hat2
        go_wp2
        go_roundw
        case rel => exact ⟨i + 1, by omega, by go_num, by rw [HL2.out]; exact ⟨_, _, HFIN.out⟩⟩
        case measure => simp [intOf]; omega
      · obtain rfl : i = m := by omega
        rw [List.take_of_length_le (by rw [numL_length]; exact Nat.le_refl _)] at HG
        go_wp2
        go_end0
        exact ⟨rfl, A, c, HG.out⟩
  · rw [if_neg hm, List.append_nil]
    have hm' : mayB n = false := by simpa using hm
    clear hm
    go_enter Try.func46, Try.ntmps46
    go_wp2_with fail
    refine (may_any w _).mono ?_
    rintro e w1 ⟨rfl, rfl⟩
    rw [hm']
    go_wp2
    refine bodyPost_ret (results_none rfl _ _ _) rfl ?_
    exact ⟨rfl, _, _, WGo.refl h⟩
end Go.Proofs.Ytlpdiamgpnmeoaa
