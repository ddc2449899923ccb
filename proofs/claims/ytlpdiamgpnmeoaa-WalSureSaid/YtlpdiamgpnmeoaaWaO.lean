
/- Records: Append walked. -/
import Derived.Test.YtlpdiamgpnmeoaaWaN
namespace Go.Proofs.Ytlpdiamgpnmeoaa
open Go.RowKit
set_option linter.unusedVariables false
/-- Where the bytes behind place fr are laid, and which. -/
def lay0 (L : LS) (area fr : Nat) : Nat := 2 + area * L.size + fr / 256
def layB (b : List UInt8) (fr : Nat) : List UInt8 := b.drop (fr / 256 * 256)
/-- Append: the error, the disk, the log. -/
def appS (D : DS) (L : LS) (b : List UInt8) : Int × DS × LS :=
  if L.e ≠ 0 then (L.e, D, L) else if 16384 < b.length then (13, D, L) else if L.size * 256 - L.b.length < 8 + b.length then (31, D, L) else
    if layE D (lay0 L L.area L.b.length) (layB (L.b ++ frameL b) L.b.length) ≠ 0 then (layE D (lay0 L L.area L.b.length) (layB (L.b ++ frameL b) L.b.length), layD D (lay0 L L.area L.b.length) (layB (L.b ++ frameL b) L.b.length), { L with e := layE D (lay0 L L.area L.b.length) (layB (L.b ++ frameL b) L.b.length) })
    else (0, layD D (lay0 L L.area L.b.length) (layB (L.b ++ frameL b) L.b.length), { L with b := L.b ++ frameL b, rows := L.rows ++ [b] })
abbrev exA : List Nat := [tDisk, tLoose, tLog, tBy]
theorem writeD_n (D : DS) (i : Int) (l : List UInt8) : (writeD D i l).n = D.n := by
  unfold writeD
  split
  · rfl
  · split
    · split
      · split
        · exact countD_n D
        · exact countD_n D
      · rfl
    · rfl
theorem layP_n (D : DS) (f : Nat) (c : List UInt8) : ∀ (xs : List Nat) (s : Int × DS × Nat), (xs.foldl (layStep f c) s).2.1.n = s.2.1.n
  | [], s => rfl
  | x :: xs, s => by
    rw [List.foldl_cons, layP_n D f c xs]
    unfold layStep
    split
    · exact writeD_n _ _ _
    · rfl
theorem layD_n (D : DS) (f : Nat) (c : List UInt8) : (layD D f c).n = D.n := layP_n D f c _ _
theorem runS_one (s : DS → Int × DS) (D : DS) : runS [s] D = s D := by
  have := runS_snoc [] s D
  rw [List.nil_append] at this
  rw [this]
  exact if_pos rfl
theorem one_step {w : World} {B gl g : Nat} {D : DS} {L : LS} {vb vr : Value} {vs : List Value} {n : Nat} {fv : Value} {s : DS → Int × DS} (h : StepAt w B gl g L vb vr vs n fv s D) :
    ∀ (i : Nat) (fv' : Value) (s' : DS → Int × DS), [fv][i]? = some fv' → [s][i]? = some s' → (runS ([s].take i) D).1 = 0 → StepAt w B gl g L vb vr vs n fv' s' (runS ([s].take i) D).2 := by
  intro i fv' s' h1 h2 _
  cases i with
  | zero =>
    injection h1 with h1
    injection h2 with h2
    subst h1 h2
    exact h
  | succ i => cases h1
theorem gives_store1 {P : Program} {o : Oper} {a : Act} {w : World} {S : Value → World → Prop} {ty : TypeId} {x y : Operand} (ho : o.op = .store ty x y) {g off : Nat} (hx : a.eval x = .pointer (some ⟨g, off, none⟩)) {v : Value} (hy : a.eval y = v) (hT : Siz1 P ty) (h1 : v.oneCell' = true)
    {t : TypeId} {cur : Array Value} (hb : Blk w g t cur) (hl : off < cur.size) (h : ∀ w1, Put w w1 g t (spl cur off [v]) → S undef w1) : gives P o a w S := by
  unfold gives execOp
  simp only [ho, hx, hy, Instr.storeAt, Instr.sureAddr, Sem.run_bind, Sem.run_pure, Result.andThen_ok, run_store1 hT h1 hb hl]
  exact h _ (setRow_put hb _)
def KP.slc (n : Nat) : KP := fun v => ∃ A c, v = .slice A n c
/-- What memory is while the new record is kept. -/
def KApp (w1 : World) (B gl : Nat) (b : List UInt8) (vs : List Value) (n : Nat) (vr : Value) (c1 : Array Value) (c2 : Value → Array Value) : List (Option Value) → World → Prop
  | [k8, k9, none, none, none], w' => Below w1.heap.size w1 w' ∧ (∀ v8, k8 = some v8 → OwnB w' w1.heap.size v8 b) ∧ (∀ v9, k9 = some v9 → ∃ v8, k8 = some v8 ∧ ∃ g9, v9 = .slice (some ⟨g9, 0, none⟩) 1 1 ∧ Rd w' w'.heap.size (some ⟨g9, 0, none⟩) [v8])
  | [some v8, some _, some v10, none, none], w' => ∃ w2, Below w1.heap.size w1 w2 ∧ OwnB w2 w1.heap.size v8 b ∧ w2.grownBy w' vr.ownBlock ∧ w'.ownsRow B tBy 1 v10 (n + 1) (vs ++ [v8])
  | [some v8, some _, some v10, some _, none], w' => ∃ w2 w3, Below w1.heap.size w1 w2 ∧ OwnB w2 w1.heap.size v8 b ∧ w2.grownBy w3 vr.ownBlock ∧ w3.ownsRow B tBy 1 v10 (n + 1) (vs ++ [v8]) ∧ Put w3 w' gl tLog c1
  | [some v8, some _, some v10, some _, some _], w' => ∃ w2 w3 w4, Below w1.heap.size w1 w2 ∧ OwnB w2 w1.heap.size v8 b ∧ w2.grownBy w3 vr.ownBlock ∧ w3.ownsRow B tBy 1 v10 (n + 1) (vs ++ [v8]) ∧ Put w3 w4 gl tLog c1 ∧ Put w4 w' gl tLog (c2 v10)
  | _, _ => False
theorem KApp.start {w1 : World} {B gl : Nat} {b : List UInt8} {vs : List Value} {n : Nat} {vr : Value} {c1 : Array Value} {c2 : Value → Array Value} : KApp w1 B gl b vs n vr c1 c2 [none, none, none, none, none] w1.drew := ⟨(Below.refl _ w1).drew, fun v h => (by cases h), fun v h => (by cases h)⟩
theorem KApp.low {w1 w : World} {B gl : Nat} {b : List UInt8} {vs : List Value} {n : Nat} {vr : Value} {c1 : Array Value} {c2 : Value → Array Value} {k8 k9 : Option Value} (h : KApp w1 B gl b vs n vr c1 c2 [k8, k9, none, none, none] w) : Below w1.heap.size w1 w := h.1
section
variable {w1 w w' : World} {B gl : Nat} {b : List UInt8} {vs : List Value} {n : Nat} {vr : Value} {c1 : Array Value} {c2 : Value → Array Value}
theorem KApp.call (h : KApp w1 B gl b vs n vr c1 c2 [none, none, none, none, none] w) (hb : Below w.heap.size w w') {v : Value} (ho : OwnB w' w.heap.size v b) : KApp w1 B gl b vs n vr c1 c2 [some v, none, none, none, none] w' :=
  ⟨bx_trans h.1 hb, fun v8 h8 => by injection h8 with h8; rw [← h8]; exact own_lessW ho h.1.size, fun v9 h9 => by cases h9⟩
theorem KApp.build {v : Value} (h : KApp w1 B gl b vs n vr c1 c2 [some v, none, none, none, none] w) : KApp w1 B gl b vs n vr c1 c2 [some v, some (.slice (some ⟨w.heap.size, 0, none⟩) 1 1), none, none, none] (w.alloc (.cells #[v] tBy)) := by
  have hb : Below w.heap.size w (w.alloc (.cells #[v] tBy)) := bx_alloc (Below.refl _ _) _
  exact ⟨bx_trans h.1 hb, fun v8 h8 => (h.2.1 v8 h8).below hb, fun v9 h9 => by injection h9 with h9; exact ⟨v, rfl, _, h9.symm, rd_of_row (heap_new rfl) rfl⟩⟩
theorem KApp.at9 {v8 v9 : Value} (h : KApp w1 B gl b vs n vr c1 c2 [some v8, some v9, none, none, none] w) : Below w1.heap.size w1 w ∧ OwnB w w1.heap.size v8 b ∧ ∃ g9, v9 = .slice (some ⟨g9, 0, none⟩) 1 1 ∧ Rd w w.heap.size (some ⟨g9, 0, none⟩) [v8] := by
  obtain ⟨h1, h2, h3⟩ := h
  obtain ⟨v, e, g9, q1, q2⟩ := h3 v9 rfl
  injection e with e
  subst e
  exact ⟨h1, h2 _ rfl, g9, q1, q2⟩
end
theorem XFr.of_grown {ex : List Nat} {B e size n : Nat} {w w' : World} {v : Value} {xs : List Value} (h : w.ownsRow B e size v n xs) (hg : w.grownBy w' v.ownBlock) (he : e ∈ ex) (hB : B ≤ w.heap.size) : XFr ex B w w' :=
  ⟨(Below.refl B w).grown hg hB (fun k hk => (h.lt k hk).1), fun k cs t fr hk hn => (hg.block k (Array.getElem?_eq_some_iff.1 hk).1 (fun e' => own_ne h hk (fun cur hx => by injection hx with _ hx; exact hn (hx ▸ he)) e'.symm)).trans hk⟩
/-- A disk is as it was when a row of another kind has grown. -/
theorem IsDisk.grownRow {w w' : World} {B B' g e size n : Nat} {D : DS} {v : Value} {xs : List Value} (h : IsDisk w B g D) (ho : w.ownsRow B' e size v n xs) (hg : w.grownBy w' v.ownBlock) (h1 : e ≠ tDisk) (h2 : e ≠ tLoose) : IsDisk w' B g D := by
  obtain ⟨m, A, c, h⟩ := h
  refine ⟨m, A, c, h.ok, (hg.block g h.blk.lt (fun e' => own_ne ho h.blk (fun cur hx => by injection hx with _ hx; exact h1 hx.symm) e'.symm)).trans h.blk, h.map.of_same (hg.block m h.map.lt (fun e' => ?_)), own_grow h.own ho hg (Ne.symm h2), h.gB, h.mB⟩
  obtain ⟨es, clock, hb, _⟩ := h.map
  exact own_ne ho hb (fun cur hx => by cases hx) e'.symm
abbrev tFn : Nat := 34
abbrev tPL : Nat := 30
/-- What lay tells. -/
def LayF (w : World) (gl area : Nat) (vb : Value) (fr : Nat) (v : Value) : Prop := ∃ p0 p1 p2 p3, v = .func (.func 50) #[] #[.pointer (some ⟨p3, 0, none⟩), .pointer (some ⟨p2, 0, none⟩), .pointer (some ⟨p0, 0, none⟩), .pointer (some ⟨p1, 0, none⟩)] ∧ Blk w p0 tPL #[.pointer (some ⟨gl, 0, none⟩)] ∧ Blk w p1 tInt #[.int .i64 (area : Int)] ∧ Blk w p2 tBy #[vb] ∧ Blk w p3 tInt #[.int .i64 (fr : Int)]
theorem LayF.below {w w' : World} {gl area fr : Nat} {vb v : Value} (h : LayF w gl area vb fr v) (hb : Below w.heap.size w w') : LayF w' gl area vb fr v := by
  obtain ⟨p0, p1, p2, p3, h0, h1, h2, h3, h4⟩ := h
  exact ⟨p0, p1, p2, p3, h0, h1.below hb h1.lt, h2.below hb h2.lt, h3.below hb h3.lt, h4.below hb h4.lt⟩
def FP.layF (gl area : Nat) (vb : Value) (fr : Nat) : FP := ⟨fun v w => LayF w gl area vb fr v, fun _ _ _ hb h => h.below hb⟩
theorem elFn : ElT Try.prog 90 tFn 1 8 Value.nilFunc.cells := elT_of (z := .nilFunc) Try.underlying90 (by kernel_rfl) rfl (by decide)
/-- One closure in a row of its own. -/
def FP.lays (gl area : Nat) (vb : Value) (fr : Nat) : FP := ⟨fun v w => ∃ gr fv, v = .slice (some ⟨gr, 0, none⟩) 1 1 ∧ Blk w gr tFn #[fv] ∧ LayF w gl area vb fr fv, fun _ _ _ hb h => by
  obtain ⟨gr, fv, h1, h2, h3⟩ := h
  exact ⟨gr, fv, h1, h2.below hb h2.lt, h3.below hb⟩⟩
theorem enLay : ∀ args w, (callFunc 50 args).run Try.prog w = .ok (.enter 50 args) w := enters_of Try.func50 (by kernel_rfl) rfl
theorem lay_step {w : World} {B gl g : Nat} {D : DS} {L : LS} {vb vr : Value} {vs : List Value} (hB : B ≤ w.heap.size) (hs : L.size ≤ 1000000) {area fr : Nat} {An : Option Addr} {cn : Nat} {b : List UInt8} {fv : Value} (hf : LayF w gl area (.slice An b.length cn) fr fv)
    (hb : SlO w (.slice An b.length cn) b) (ha : area < 2) (hfr : fr ≤ b.length) (hbl : b.length ≤ 300000000) (hroom : D.loose.length + b.length < 1000000) :
    StepAt w B gl g L vb vr vs D.n fv (fun D => (layE D (lay0 L area fr) (layB b fr), layD D (lay0 L area fr) (layB b fr))) D := by
  obtain ⟨p0, p1, p2, p3, rfl, h0, h1, h2, h3⟩ := hf
  refine ⟨_, _, _, rfl, enLay, fun W hx hlog => ?_⟩
  refine (lay1_any W hlog (Nat.le_trans hB hx.below.size) hs (blk_xfr h0 hx (by decide)) (blk_xfr h1 hx (by decide)) (blk_xfr h2 hx (by decide)) (blk_xfr h3 hx (by decide)) (hb.xfr hx (by decide)) ha hfr hbl hroom).mono ?_
  rintro e W' ⟨rfl, h5, h6⟩
  exact ⟨rfl, h5, layD_n _ _ _, h6⟩
set_option maxRecDepth 100000 in
set_option maxHeartbeats 2000000 in
theorem Append_go (w : World) {B gl g : Nat} {D : DS} {L : LS} {vb vr : Value} {vs : List Value} (h : IsLog w B gl g D L vb vr vs) (hB : B ≤ w.heap.size) (hs : L.size ≤ 1000) (hroom : D.loose.length + L.size * 256 < 1000000) {A : Option Addr} {c : Nat} {b : List UInt8} (hr : ∀ W, XFr exL B w W → Rd W W.heap.size A (b.map cb)) (hbc : b.length ≤ c) (hl : b.length ≤ 100000)
    (he : L.e = 0) (hbig : b.length ≤ 16384) (hful : 8 + b.length ≤ L.size * 256 - L.b.length) :
    Calls Try.prog 13 #[.pointer (some ⟨gl, 0, none⟩), .slice A b.length c] w fun e w' => e = .returned (.int .i64 (appS D L b).1) ∧ ALog w' B gl g (appS D L b).2.1 (appS D L b).2.2 ∧ XFr exA B w w' := by
  obtain ⟨now, hnow⟩ : ∃ now, now = L.b ++ frameL b := ⟨_, rfl⟩
  obtain ⟨f, hf⟩ : ∃ f, f = lay0 L L.area L.b.length := ⟨_, rfl⟩
  obtain ⟨X, hX⟩ : ∃ X, X = layB now L.b.length := ⟨_, rfl⟩
  obtain ⟨E, hE⟩ : ∃ E, E = layE D f X := ⟨_, rfl⟩
  obtain ⟨D', hD'⟩ : ∃ D', D' = layD D f X := ⟨_, rfl⟩
  have happ : appS D L b = if E ≠ 0 then (E, D', { L with e := E }) else (0, D', { L with b := now, rows := L.rows ++ [b] }) := by
    unfold appS
    rw [if_neg (fun hh => hh he), if_neg (by omega), if_neg (by omega), ← hnow, ← hf, ← hX, ← hE, ← hD']
  have hfl := frameL_len b
  have hlb := h.len
  have hby := h.by_
  obtain ⟨Ab, cb0, rfl, hcb0, hcm0, _, _⟩ := hby
  obtain ⟨Ar, cr, rfl, hcr, hmr, _⟩ := own_form h.rows.own
  have hnl : now.length = L.b.length + (8 + b.length) := by rw [hnow, List.length_append, hfl]
  obtain ⟨F, hF⟩ : ∃ F, F = frameL b := ⟨_, rfl⟩
  rw [← hF] at hfl hnow
  obtain ⟨q, hq⟩ : ∃ q, q = L.b.length := ⟨_, rfl⟩
  obtain ⟨n, hn⟩ : ∃ n, n = L.rows.length := ⟨_, rfl⟩
  have hc7 : w.cell? ⟨gl, 7, none⟩ = some (.int .i64 0) := by rw [h.blk.cell 7, he.symm]; rfl
  have HAP := hid happ
  have HL := hid h
  have HR := hid hr
  have HFE := hid hF
  have HNW := hid hnow
  have HE := hid hE
  have HDE := hid hD'
  have HX := hid hX
  have HFF := hid hf
  have HQ := hid hq
  have HNL := hid hnl
  have HFL := hid hfl
  have HLE := hid he
  have HFR := hid (frame_any w (c := c) (HR.out w (XFr.refl _ _ _)) (Nat.le_refl _) hbc (by omega))
  have lgl := h.blk.lt
  clear happ h hr hF hnow hE hD' hX hf hq hnl hfl he
  go_enter Try.func13, Try.ntmps13
  go_wp2_with fail
  refine HFR.out.mono ?_
  rintro e w1 ⟨vF, rfl, hownF, hb1⟩
  rw [← HFE.out] at hownF
  obtain ⟨AF, cF, rfl, hcF, hmF, hrF⟩ := own_form hownF
  have hc71 := (hb1.cell (p := ⟨gl, 7, none⟩) lgl).trans hc7
  have hlog1 := HL.out.below hb1 hB
  obtain ⟨fl, hfl⟩ : ∃ fl, fl = F.length := ⟨_, rfl⟩
  rw [← hfl] at hcF hownF ⊢
  have hfl2 : fl = 8 + b.length := by rw [hfl]; exact HFL.out
  have HFL2 := hid hfl
  have HFUL := hid hful
  have hbi : ¬ (16384 : Int) < (b.length : Int) := by omega
  have HFREE := hid (Free_any w1 hlog1 (by omega))
  obtain ⟨fri, hfri⟩ : ∃ fri : Int, fri = ((L.size * 256 - L.b.length : Nat) : Int) := ⟨_, rfl⟩
  rw [← hfri] at HFREE
  have hfi : ¬ fri < (fl : Int) := by omega
  have HLB := hid hlb
  have HLG1 := hid hlog1
  have HOF := hid hownF
  have HRF := hid hrF
  clear hfri hfl hfl2 hlog1 hlb hownF hrF hc7 hful hbig
  go_wp2_with fail
  refine HFREE.out.mono ?_
  rintro e w2 ⟨rfl, hb2⟩
  have hlg2 := HLG1.out.below hb2 (Nat.le_trans hB hb1.size)
  have c42 : w2.cell? ⟨gl, 4, none⟩ = some (.slice Ab L.b.length cb0) := hlg2.blk.cell 4
  have hF2 := (HRF.out.below hb2).more hb2.size
  have HB2 := hid (rdBB_two (w := w2) (t := tBy) (B := w2.heap.size) (l := L.b) (l' := F) (v := .slice Ab L.b.length cb0) (v' := .slice AF fl cF) (by obtain ⟨A9, c9, e9, q9, _, r9, _⟩ := hlg2.by_; exact ⟨A9, c9, e9, q9, r9⟩) ⟨AF, cF, by rw [HFL2.out], by rw [← HFL2.out]; exact hcF, hF2⟩ (Nat.le_refl _))
  have hlg3 := hlg2.below (w' := w2.alloc (.cells #[.slice Ab L.b.length cb0, .slice AF fl cF] tBy)) (bx_alloc (Below.refl _ _) _) (Nat.le_trans hB (Nat.le_trans hb1.size hb2.size))
  have HLG3 := hid hlg3
  have hb3 : Below w.heap.size w (w2.alloc (.cells #[.slice Ab L.b.length cb0, .slice AF fl cF] tBy)) := bx_alloc (bx_trans hb1 hb2) _
  clear hF2 hlg3 hlg2
  go_wp2_with fail
  refine (Concat_any _ (ls := [L.b, F]) HB2.out (by simp) (by simp) (by have h1 := HLB.out; have h2 := HFL.out; have h3 := HFUL.out; simp; omega)).mono ?_
  rintro e w4 ⟨vn, rfl, hown4, hb4⟩
  have hfn : [L.b, F].flatten = now := by rw [HNW.out]; simp
  rw [hfn] at hown4
  obtain ⟨An, cn, rfl, hcn, hmn, hrn⟩ := own_form hown4
  have hb04 := bx_trans hb3 hb4
  have hlg4 := HLG3.out.below hb4 (Nat.le_trans hB hb3.size)
  have hson : SlO w4 (.slice An now.length cn) now := ⟨An, cn, rfl, hcn, hmn, hrn, fun a ha => own_out hown4 rfl a ha⟩
  have HSN := hid hson
  have HLG4 := hid hlg4
  have HB04 := hid hb04
  have hB4 := Nat.le_trans hB hb04.size
  have l4 := hlg4.blk.lt
  have c34 : w4.cell? ⟨gl, 3, none⟩ = some (.int .i64 (L.area : Int)) := hlg4.blk.cell 3
  have c44 : w4.cell? ⟨gl, 4, none⟩ = some (.slice Ab L.b.length cb0) := hlg4.blk.cell 4
  obtain ⟨nl, hnl⟩ : ∃ nl, nl = now.length := ⟨_, rfl⟩
  rw [← hnl] at hcn hson ⊢
  have HNL2 := hid hnl
  have hnl9 : nl ≤ L.size * 256 ∧ L.b.length ≤ nl := by have h1 := HNL.out; have h2 := HLB.out; have h3 := HFUL.out; rw [← hnl] at h1; omega
  clear hown4 hrn hnl hson hlg4 hb04 hb3
  go_wp2_with fail
  refine wp_flowQ (by kernel_rfl) [0, 0, 0, 4, 12, 28, 0, 0, 128, 384, 896, 1920, 4094, 8190, 16383, 32767] 14 [false, false, false, false, false, false, false, false, false, false, false, false, false, false, false, false, false, false, false, false, false, false, false, false, false, false, false, false, false, false, false, false, false, false, false, false, false, false, false, true, true, true, true, true, true, true, true, true, true, true, true, true, true, true] (by kernel_rfl) (by decide) (by kernel_rfl) [FP.eq (.pointer (some ⟨gl, 0, none⟩)), FP.eq (.pointer (some ⟨gl, 0, none⟩)), FP.eq (.pointer (some ⟨gl, 0, none⟩)), FP.eq (.pointer (some ⟨gl, 0, none⟩)), FP.eq (.pointer (some ⟨gl, 3, none⟩)), FP.eq (.int .i64 (L.area : Int)), FP.eq (.slice An nl cn), FP.eq (.pointer (some ⟨gl, 0, none⟩)), FP.eq (.pointer (some ⟨gl, 0, none⟩)), FP.eq (.pointer (some ⟨gl, 4, none⟩)), FP.eq (.slice Ab L.b.length cb0), FP.eq (.int .i64 (L.b.length : Int)), FP.layF gl L.area (.slice An nl cn) L.b.length, FP.lays gl L.area (.slice An nl cn) L.b.length] (fun v w' => v = .int .i64 E ∧ IsLog w' B gl g D' { L with e := E } (.slice Ab L.b.length cb0) (.slice Ar L.rows.length cr) vs ∧ XFr exL B w4 w') ?_ (q_of rfl ⟨rfl, ?_⟩) ?_
  · refine allFrom_cons (stepQ_yes (by kernel_rfl) ?_) ?_
    · intro a_ w_ hk_
      have h0 : a_.eval (.tmp 0) = .pointer (some ⟨gl, 0, none⟩) := hk_.old 0 (by kernel_rfl)
      have hx_ := hk_.ext
      clear hk_
      refine flow_plain rfl ?_
      exact gives_move rfl ⟨Below.refl _ _, h0⟩
    refine allFrom_cons (stepQ_yes (by kernel_rfl) ?_) ?_
    · intro a_ w_ hk_
      have h0 : a_.eval (.tmp 0) = .pointer (some ⟨gl, 0, none⟩) := hk_.old 0 (by kernel_rfl)
      have hx_ := hk_.ext
      clear hk_
      refine flow_plain rfl ?_
      exact gives_move rfl ⟨Below.refl _ _, h0⟩
    refine allFrom_cons (stepQ_yes (by kernel_rfl) ?_) ?_
    · intro a_ w_ hk_
      have h0 : a_.eval (.tmp 0) = .pointer (some ⟨gl, 0, none⟩) := hk_.old 0 (by kernel_rfl)
      have hx_ := hk_.ext
      clear hk_
      refine flow_plain rfl ?_
      exact gives_move rfl ⟨Below.refl _ _, h0⟩
    refine allFrom_cons (stepQ_yes (by kernel_rfl) ?_) ?_
    · intro a_ w_ hk_
      have h41 : a_.eval (.tmp 41) = (.pointer (some ⟨gl, 0, none⟩)) := hk_.got 2 41 _ (by kernel_rfl) rfl rfl
      have hx_ := hk_.ext
      clear hk_
      refine flow_plain rfl ?_
      unfold gives
      have hc_ : ∀ v, a_.eval (.const v) = v := fun _ => rfl
      have hn_ : ∀ f, a_.eval (.func f) = .func (.func f) #[] #[] := fun _ => rfl
      generalize a_.eval = ρ_ at *
      go_simp
      exact ⟨Below.refl _ _, rfl⟩
    refine allFrom_cons (stepQ_yes (by kernel_rfl) ?_) ?_
    · intro a_ w_ hk_
      have h42 : a_.eval (.tmp 42) = (.pointer (some ⟨gl, 0, none⟩)) := hk_.got 3 42 _ (by kernel_rfl) rfl rfl
      have hx_ := hk_.ext
      clear hk_
      refine flow_plain rfl ?_
      unfold gives
      have hc_ : ∀ v, a_.eval (.const v) = v := fun _ => rfl
      have hn_ : ∀ f, a_.eval (.func f) = .func (.func f) #[] #[] := fun _ => rfl
      generalize a_.eval = ρ_ at *
      go_simp
      exact ⟨Below.refl _ _, rfl⟩
    refine allFrom_cons (stepQ_yes (by kernel_rfl) ?_) ?_
    · intro a_ w_ hk_
      have h43 : a_.eval (.tmp 43) = (.pointer (some ⟨gl, 3, none⟩)) := hk_.got 4 43 _ (by kernel_rfl) rfl rfl
      have hx_ := hk_.ext
      clear hk_
      refine flow_plain rfl ?_
      unfold gives
      have hc_ : ∀ v, a_.eval (.const v) = v := fun _ => rfl
      have hn_ : ∀ f, a_.eval (.func f) = .func (.func f) #[] #[] := fun _ => rfl
      have hcell := (hx_.cell (p := ⟨gl, 3, none⟩) l4).trans c34
      generalize a_.eval = ρ_ at *
      go_simp
      exact ⟨Below.refl _ _, rfl⟩
    refine allFrom_cons (stepQ_yes (by kernel_rfl) ?_) ?_
    · intro a_ w_ hk_
      have h6 : a_.eval (.tmp 6) = .slice An nl cn := hk_.old 6 (by kernel_rfl)
      have hx_ := hk_.ext
      clear hk_
      refine flow_plain rfl ?_
      exact gives_move rfl ⟨Below.refl _ _, h6⟩
    refine allFrom_cons (stepQ_yes (by kernel_rfl) ?_) ?_
    · intro a_ w_ hk_
      have h0 : a_.eval (.tmp 0) = .pointer (some ⟨gl, 0, none⟩) := hk_.old 0 (by kernel_rfl)
      have hx_ := hk_.ext
      clear hk_
      refine flow_plain rfl ?_
      exact gives_move rfl ⟨Below.refl _ _, h0⟩
    refine allFrom_cons (stepQ_yes (by kernel_rfl) ?_) ?_
    · intro a_ w_ hk_
      have h46 : a_.eval (.tmp 46) = (.pointer (some ⟨gl, 0, none⟩)) := hk_.got 7 46 _ (by kernel_rfl) rfl rfl
      have hx_ := hk_.ext
      clear hk_
      refine flow_plain rfl ?_
      unfold gives
      have hc_ : ∀ v, a_.eval (.const v) = v := fun _ => rfl
      have hn_ : ∀ f, a_.eval (.func f) = .func (.func f) #[] #[] := fun _ => rfl
      generalize a_.eval = ρ_ at *
      go_simp
      exact ⟨Below.refl _ _, rfl⟩
    refine allFrom_cons (stepQ_yes (by kernel_rfl) ?_) ?_
    · intro a_ w_ hk_
      have h47 : a_.eval (.tmp 47) = (.pointer (some ⟨gl, 0, none⟩)) := hk_.got 8 47 _ (by kernel_rfl) rfl rfl
      have hx_ := hk_.ext
      clear hk_
      refine flow_plain rfl ?_
      unfold gives
      have hc_ : ∀ v, a_.eval (.const v) = v := fun _ => rfl
      have hn_ : ∀ f, a_.eval (.func f) = .func (.func f) #[] #[] := fun _ => rfl
      generalize a_.eval = ρ_ at *
      go_simp
      exact ⟨Below.refl _ _, rfl⟩
    refine allFrom_cons (stepQ_yes (by kernel_rfl) ?_) ?_
    · intro a_ w_ hk_
      have h48 : a_.eval (.tmp 48) = (.pointer (some ⟨gl, 4, none⟩)) := hk_.got 9 48 _ (by kernel_rfl) rfl rfl
      have hx_ := hk_.ext
      clear hk_
      refine flow_plain rfl ?_
      unfold gives
      have hc_ : ∀ v, a_.eval (.const v) = v := fun _ => rfl
      have hn_ : ∀ f, a_.eval (.func f) = .func (.func f) #[] #[] := fun _ => rfl
      have hcell := (hx_.cell (p := ⟨gl, 4, none⟩) l4).trans c44
      generalize a_.eval = ρ_ at *
      go_simp
      exact ⟨Below.refl _ _, rfl⟩
    refine allFrom_cons (stepQ_yes (by kernel_rfl) ?_) ?_
    · intro a_ w_ hk_
      have h49 : a_.eval (.tmp 49) = (.slice Ab L.b.length cb0) := hk_.got 10 49 _ (by kernel_rfl) rfl rfl
      have hx_ := hk_.ext
      clear hk_
      refine flow_plain rfl ?_
      unfold gives
      have hc_ : ∀ v, a_.eval (.const v) = v := fun _ => rfl
      have hn_ : ∀ f, a_.eval (.func f) = .func (.func f) #[] #[] := fun _ => rfl
      generalize a_.eval = ρ_ at *
      go_simp
      exact ⟨Below.refl _ _, rfl⟩
    refine allFrom_cons (stepQ_yes (by kernel_rfl) ?_) ?_
    · intro a_ w_ hk_
      have h40 : a_.eval (.tmp 40) = (.pointer (some ⟨gl, 0, none⟩)) := hk_.got 1 40 _ (by kernel_rfl) rfl rfl
      have h44 : a_.eval (.tmp 44) = (.int .i64 (L.area : Int)) := hk_.got 5 44 _ (by kernel_rfl) rfl rfl
      have h45 : a_.eval (.tmp 45) = (.slice An nl cn) := hk_.got 6 45 _ (by kernel_rfl) rfl rfl
      have h50 : a_.eval (.tmp 50) = (.int .i64 (L.b.length : Int)) := hk_.got 11 50 _ (by kernel_rfl) rfl rfl
      have hx_ := hk_.ext
      clear hk_
      refine flow_plain rfl ?_
      unfold gives
      have hc_ : ∀ v, a_.eval (.const v) = v := fun _ => rfl
      have hn_ : ∀ f, a_.eval (.func f) = .func (.func f) #[] #[] := fun _ => rfl
      generalize a_.eval = ρ_ at *
      go_simp
      refine (lay_any w_ ⟨An, nl, cn, rfl⟩).mono ?_
      rintro e w' ⟨p0, p1, p2, p3, h1, h2, h3, h4, h5, h6⟩
      exact ⟨_, h1, h6, p0, p1, p2, p3, rfl, h2, h3, h4, h5⟩
    refine allFrom_cons (stepQ_yes (by kernel_rfl) ?_) ?_
    · intro a_ w_ hk_
      have h51 : (FP.layF gl L.area (.slice An nl cn) L.b.length).p (a_.eval (.tmp 51)) w_ := hk_.got 12 51 _ (by kernel_rfl) rfl rfl
      have hx_ := hk_.ext
      clear hk_
      refine flow_plain rfl ?_
      obtain ⟨p0, p1, p2, p3, e_, q0, q1, q2, q3⟩ := (show LayF w_ gl L.area (.slice An nl cn) L.b.length (a_.eval (.tmp 51)) from h51)
      have hcl_ : (a_.eval (.tmp 51)).cells = #[a_.eval (.tmp 51)] := by rw [e_]; rfl
      have hb_ : Blk (w_.alloc (.cells (a_.eval (.tmp 51)).cells tFn)) w_.heap.size tFn #[a_.eval (.tmp 51)] := by have := Blk.new w_ tFn (a_.eval (.tmp 51)).cells; rw [hcl_] at this ⊢; exact this
      exact gives_slice1 _ _ rfl _ rfl elFn (by rw [e_]; rfl) (by decide) ⟨bx_alloc (Below.refl _ _) _, _, _, rfl, hb_, LayF.below h51 (bx_alloc (Below.refl _ _) _)⟩
    exact allFrom_nil
  · intro a_ w_ hk_
    have h39 : a_.eval (.tmp 39) = (.pointer (some ⟨gl, 0, none⟩)) := hk_.got 0 39 _ (by kernel_rfl) rfl rfl
    have h52 : (FP.lays gl L.area (.slice An nl cn) L.b.length).p (a_.eval (.tmp 52)) w_ := hk_.got 13 52 _ (by kernel_rfl) rfl rfl
    have hx_ := hk_.ext
    clear hk_
    obtain ⟨gr, fv, e52, hbr, hlf⟩ := h52
    have hgo := all_any w_ (HLG4.out.below hx_ hB4) HLE.out (A := some ⟨gr, 0, none⟩) (c := 1) (fvs := [fv]) (fun W hx => rd_of_row (blk_xfr hbr hx (by decide)) rfl) [fun D => (layE D f X, layD D f X)] rfl (by show 1 ≤ 4; omega) (one_step ?_)
    · rw [runS_one] at hgo
      rw [← HE.out, ← HDE.out] at hgo
      clear hlf hbr
      unfold gives
      have hc_ : ∀ v, a_.eval (.const v) = v := fun _ => rfl
      have hn_ : ∀ f, a_.eval (.func f) = .func (.func f) #[] #[] := fun _ => rfl
      generalize a_.eval = ρ_ at *
      go_simp
      exact hgo.mono fun e w' ⟨h1, h2, h3⟩ => ⟨_, h1, rfl, h2, (XFr.of_below hx_ hB4).trans h3⟩
    · rw [HNL2.out] at hlf
      have := lay_step (B := B) (g := g) (D := D) (L := L) (vb := .slice Ab L.b.length cb0) (vr := .slice Ar L.rows.length cr) (vs := vs) (Nat.le_trans hB4 hx_.size) (by omega) hlf (HSN.out.xfr (XFr.of_below (ex := []) (B := 0) hx_ (Nat.zero_le _)) (by simp)) HLG4.out.area (by rw [← HNL2.out]; exact hnl9.2) (by rw [← HNL2.out]; omega) (by rw [← HNL2.out]; omega)
      rw [← HFF.out, ← HX.out] at this
      exact this
  intro f_ w_ hf_ ht_
  have h39 : f_ 39 = (.pointer (some ⟨gl, 0, none⟩)) := (hf_ 0 39 _ (by decide) rfl rfl).elim fun _ h => h
  have h40 : f_ 40 = (.pointer (some ⟨gl, 0, none⟩)) := (hf_ 1 40 _ (by decide) rfl rfl).elim fun _ h => h
  have h41 : f_ 41 = (.pointer (some ⟨gl, 0, none⟩)) := (hf_ 2 41 _ (by decide) rfl rfl).elim fun _ h => h
  have h42 : f_ 42 = (.pointer (some ⟨gl, 0, none⟩)) := (hf_ 3 42 _ (by decide) rfl rfl).elim fun _ h => h
  have h43 : f_ 43 = (.pointer (some ⟨gl, 3, none⟩)) := (hf_ 4 43 _ (by decide) rfl rfl).elim fun _ h => h
  have h44 : f_ 44 = (.int .i64 (L.area : Int)) := (hf_ 5 44 _ (by decide) rfl rfl).elim fun _ h => h
  have h45 : f_ 45 = (.slice An nl cn) := (hf_ 6 45 _ (by decide) rfl rfl).elim fun _ h => h
  have h46 : f_ 46 = (.pointer (some ⟨gl, 0, none⟩)) := (hf_ 7 46 _ (by decide) rfl rfl).elim fun _ h => h
  have h47 : f_ 47 = (.pointer (some ⟨gl, 0, none⟩)) := (hf_ 8 47 _ (by decide) rfl rfl).elim fun _ h => h
  have h48 : f_ 48 = (.pointer (some ⟨gl, 4, none⟩)) := (hf_ 9 48 _ (by decide) rfl rfl).elim fun _ h => h
  have h49 : f_ 49 = (.slice Ab L.b.length cb0) := (hf_ 10 49 _ (by decide) rfl rfl).elim fun _ h => h
  have h50 : f_ 50 = (.int .i64 (L.b.length : Int)) := (hf_ 11 50 _ (by decide) rfl rfl).elim fun _ h => h
  have ht := ht_ 53 _ rfl rfl
  clear ht_
  simp only [mix, List.drop_succ_cons, List.drop_zero, h39, h40, h41, h42, h43, h44, h45, h46, h47, h48, h49, h50]
  clear h39 h40 h41 h42 h43 h44 h45 h46 h47 h48 h49 h50
  clear hf_
  obtain ⟨h53, hlg5, hx5⟩ := ht
  rw [h53]
  clear h53
  by_cases hE0 : E = 0
  · subst hE0
    have hL0 : ({ L with e := 0 } : LS) = L := by rw [← HLE.out]
    rw [hL0] at hlg5
    have hx05 := (XFr.of_below HB04.out hB).trans hx5
    have hB5 := Nat.le_trans hB4 hx5.below.size
    have l5 := hlg5.blk.lt
    have c55 : w_.cell? ⟨gl, 5, none⟩ = some (.slice Ar L.rows.length cr) := hlg5.blk.cell 5
    have HLG5 := hid hlg5
    have HCL := hid (fun (W : World) (hb : Below w_.heap.size w_ W) => Clone_any W (c := c) (((HR.out w_ hx05).below hb).more hb.size) (by omega))
    obtain ⟨wx, hwx⟩ : ∃ wx, wx = w_ := ⟨_, rfl⟩
    have hrl : L.rows.length ≤ 1000000 := by have h1 := hlg5.many; have h2 := hlg5.len; omega
    have hrl63 : L.rows.length + 1 ≤ maxLen := by unfold maxLen; omega
    have hrlby : (L.rows.length + 1) * 24 ≤ 140737488355328 := by omega
    clear hL0 hlg5
    rw [← hwx] at c55 l5 hB5 HLG5 HCL hx5 hx05 ⊢
    clear hwx
    go_wp2_with fail
    refine wp_flowK (by kernel_rfl) [0, 0, 0, 0, 8, 24, 56, 0, 128, 384, 1016, 2045, 4093, 8189, 16383, 32767, 65535] 17 [false, false, false, false, false, false, false, false, false, false, false, false, false, false, false, false, false, false, false, false, false, false, false, false, false, false, false, false, false, false, false, false, false, false, false, false, false, false, false, false, false, false, false, false, false, false, false, false, false, false, false, false, false, false, false, false, false, true, true, true, true, true, true, true, true, true, true, true, true, true, true, true] (by kernel_rfl) (by decide) (by kernel_rfl) [KP.eq (.pointer (some ⟨gl, 0, none⟩)), KP.eq (.pointer (some ⟨gl, 0, none⟩)), KP.eq (.slice An nl cn), KP.eq (.pointer (some ⟨gl, 0, none⟩)), KP.eq (.pointer (some ⟨gl, 0, none⟩)), KP.eq (.pointer (some ⟨gl, 5, none⟩)), KP.eq (.slice Ar L.rows.length cr), KP.eq (.slice A b.length c), KP.slc b.length, KP.any, KP.slc (L.rows.length + 1), KP.eq (.pointer (some ⟨gl, 0, none⟩)), KP.eq (.pointer (some ⟨gl, 4, none⟩)), KP.any, KP.eq (.pointer (some ⟨gl, 0, none⟩)), KP.eq (.pointer (some ⟨gl, 5, none⟩)), KP.any] [8, 9, 10, 13, 16] (KApp wx B gl b vs L.rows.length (.slice Ar L.rows.length cr) (logc g { L with b := now } (.slice An nl cn) (.slice Ar L.rows.length cr)) (fun v => logc g { L with b := now, rows := L.rows ++ [b] } (.slice An nl cn) v)) ?_ ?_ ?_
    · simp only [List.map_cons, List.map_nil]
      exact KApp.start
    · refine allFrom_cons ?_ ?_
      · refine stepK_by (by decide) ?_
        intro f_ a_ w_ hM_ hk_
        have h0 : a_.eval (.tmp 0) = .pointer (some ⟨gl, 0, none⟩) := hk_.old 0 (by kernel_rfl)
        have k13 := hk_.later 13 _ (by kernel_rfl) rfl
        have k16 := hk_.later 16 _ (by kernel_rfl) rfl
        clear hk_
        refine flow_plain rfl ?_
        exact gives_move rfl ⟨hM_, h0⟩
      refine allFrom_cons ?_ ?_
      · refine stepK_by (by decide) ?_
        intro f_ a_ w_ hM_ hk_
        have h0 : a_.eval (.tmp 0) = .pointer (some ⟨gl, 0, none⟩) := hk_.old 0 (by kernel_rfl)
        have k16 := hk_.later 16 _ (by kernel_rfl) rfl
        clear hk_
        refine flow_plain rfl ?_
        exact gives_move rfl ⟨hM_, h0⟩
      refine allFrom_cons ?_ ?_
      · refine stepK_by (by decide) ?_
        intro f_ a_ w_ hM_ hk_
        have h6 : a_.eval (.tmp 6) = .slice An nl cn := hk_.old 6 (by kernel_rfl)
        have k13 := hk_.later 13 _ (by kernel_rfl) rfl
        have k16 := hk_.later 16 _ (by kernel_rfl) rfl
        clear hk_
        refine flow_plain rfl ?_
        exact gives_move rfl ⟨hM_, h6⟩
      refine allFrom_cons ?_ ?_
      · refine stepK_by (by decide) ?_
        intro f_ a_ w_ hM_ hk_
        have h0 : a_.eval (.tmp 0) = .pointer (some ⟨gl, 0, none⟩) := hk_.old 0 (by kernel_rfl)
        have k10 := hk_.later 10 _ (by kernel_rfl) rfl
        have k13 := hk_.later 13 _ (by kernel_rfl) rfl
        have k16 := hk_.later 16 _ (by kernel_rfl) rfl
        clear hk_
        refine flow_plain rfl ?_
        exact gives_move rfl ⟨hM_, h0⟩
      refine allFrom_cons ?_ ?_
      · refine stepK_by (by decide) ?_
        intro f_ a_ w_ hM_ hk_
        have h60 : a_.eval (.tmp 60) = (.pointer (some ⟨gl, 0, none⟩)) := hk_.got 3 60 _ (by kernel_rfl) rfl rfl
        have k10 := hk_.later 10 _ (by kernel_rfl) rfl
        have k13 := hk_.later 13 _ (by kernel_rfl) rfl
        have k16 := hk_.later 16 _ (by kernel_rfl) rfl
        clear hk_
        refine flow_plain rfl ?_
        refine gives_keep hM_ ?_
        unfold gives
        have hc_ : ∀ v, a_.eval (.const v) = v := fun _ => rfl
        have hn_ : ∀ f, a_.eval (.func f) = .func (.func f) #[] #[] := fun _ => rfl
        generalize a_.eval = ρ_ at *
        go_simp
        exact ⟨rfl, rfl⟩
      refine allFrom_cons ?_ ?_
      · refine stepK_by (by decide) ?_
        intro f_ a_ w_ hM_ hk_
        have h61 : a_.eval (.tmp 61) = (.pointer (some ⟨gl, 0, none⟩)) := hk_.got 4 61 _ (by kernel_rfl) rfl rfl
        have k10 := hk_.later 10 _ (by kernel_rfl) rfl
        have k13 := hk_.later 13 _ (by kernel_rfl) rfl
        have k16 := hk_.later 16 _ (by kernel_rfl) rfl
        clear hk_
        refine flow_plain rfl ?_
        refine gives_keep hM_ ?_
        unfold gives
        have hc_ : ∀ v, a_.eval (.const v) = v := fun _ => rfl
        have hn_ : ∀ f, a_.eval (.func f) = .func (.func f) #[] #[] := fun _ => rfl
        generalize a_.eval = ρ_ at *
        go_simp
        exact ⟨rfl, rfl⟩
      refine allFrom_cons ?_ ?_
      · refine stepK_by (by decide) ?_
        intro f_ a_ w_ hM_ hk_
        have h62 : a_.eval (.tmp 62) = (.pointer (some ⟨gl, 5, none⟩)) := hk_.got 5 62 _ (by kernel_rfl) rfl rfl
        have k10 := hk_.later 10 _ (by kernel_rfl) rfl
        have k13 := hk_.later 13 _ (by kernel_rfl) rfl
        have k16 := hk_.later 16 _ (by kernel_rfl) rfl
        clear hk_
        refine flow_plain rfl ?_
        have hM := hM_
        simp only [List.map_cons, List.map_nil, k10, k13, k16] at hM
        refine gives_keep hM_ ?_
        unfold gives
        have hc_ : ∀ v, a_.eval (.const v) = v := fun _ => rfl
        have hn_ : ∀ f, a_.eval (.func f) = .func (.func f) #[] #[] := fun _ => rfl
        have hcell := ((KApp.low hM).cell (p := ⟨gl, 5, none⟩) l5).trans c55
        generalize a_.eval = ρ_ at *
        go_simp
        exact ⟨rfl, rfl⟩
      refine allFrom_cons ?_ ?_
      · refine stepK_by (by decide) ?_
        intro f_ a_ w_ hM_ hk_
        have h1 : a_.eval (.tmp 1) = .slice A b.length c := hk_.old 1 (by kernel_rfl)
        have k8 := hk_.later 8 _ (by kernel_rfl) rfl
        have k9 := hk_.later 9 _ (by kernel_rfl) rfl
        have k10 := hk_.later 10 _ (by kernel_rfl) rfl
        have k13 := hk_.later 13 _ (by kernel_rfl) rfl
        have k16 := hk_.later 16 _ (by kernel_rfl) rfl
        clear hk_
        refine flow_plain rfl ?_
        exact gives_move rfl ⟨hM_, h1⟩
      refine allFrom_cons ?_ ?_
      · intro f_ a_ w_ hM_ hk_
        have h64 : a_.eval (.tmp 64) = (.slice A b.length c) := hk_.got 7 64 _ (by kernel_rfl) rfl rfl
        have k8 : f_ 8 = none := hk_.un
        have k9 := hk_.later 9 _ (by kernel_rfl) rfl
        have k10 := hk_.later 10 _ (by kernel_rfl) rfl
        have k13 := hk_.later 13 _ (by kernel_rfl) rfl
        have k16 := hk_.later 16 _ (by kernel_rfl) rfl
        clear hk_
        simp only [List.map_cons, List.map_nil, k8, k9, k10, k13, k16] at hM_
        simp only [List.map_cons, List.map_nil, upd_same, upd_ne f_ _ (show (9 : Nat) ≠ 8 by decide), upd_ne f_ _ (show (10 : Nat) ≠ 8 by decide), upd_ne f_ _ (show (13 : Nat) ≠ 8 by decide), upd_ne f_ _ (show (16 : Nat) ≠ 8 by decide), k9, k10, k13, k16]
        refine flow_plain rfl ?_
        unfold gives
        have hc_ : ∀ v, a_.eval (.const v) = v := fun _ => rfl
        have hn_ : ∀ f, a_.eval (.func f) = .func (.func f) #[] #[] := fun _ => rfl
        generalize a_.eval = ρ_ at *
        go_simp
        refine (HCL.out w_ (KApp.low hM_)).mono ?_
        rintro e w' ⟨v, h1, h2, h3⟩
        obtain ⟨A8, c8, e8, _, _, _⟩ := own_form h2
        exact ⟨v, h1, KApp.call hM_ h3 h2, A8, c8, e8⟩
      refine allFrom_cons ?_ ?_
      · intro f_ a_ w_ hM_ hk_
        have h65 := hk_.got 8 65 _ (by kernel_rfl) rfl rfl
        have k8 := hk_.val 8 65 _ (by kernel_rfl) rfl rfl
        have k9 : f_ 9 = none := hk_.un
        have k10 := hk_.later 10 _ (by kernel_rfl) rfl
        have k13 := hk_.later 13 _ (by kernel_rfl) rfl
        have k16 := hk_.later 16 _ (by kernel_rfl) rfl
        clear hk_
        simp only [List.map_cons, List.map_nil, k8, k9, k10, k13, k16] at hM_
        simp only [List.map_cons, List.map_nil, upd_same, upd_ne f_ _ (show (8 : Nat) ≠ 9 by decide), upd_ne f_ _ (show (10 : Nat) ≠ 9 by decide), upd_ne f_ _ (show (13 : Nat) ≠ 9 by decide), upd_ne f_ _ (show (16 : Nat) ≠ 9 by decide), k8, k10, k13, k16]
        refine flow_plain rfl ?_
        obtain ⟨A8, c8, e8⟩ := h65
        have hcl_ : (a_.eval (.tmp 65)).cells = #[a_.eval (.tmp 65)] := by rw [e8]; rfl
        refine gives_slice1 _ _ rfl _ rfl elBy (by rw [e8]; rfl) (by decide) ⟨?_, trivial⟩
        rw [hcl_]
        exact KApp.build hM_
      refine allFrom_cons ?_ ?_
      · intro f_ a_ w_ hM_ hk_
        have h63 : a_.eval (.tmp 63) = (.slice Ar L.rows.length cr) := hk_.got 6 63 _ (by kernel_rfl) rfl rfl
        have k8 := hk_.val 8 65 _ (by kernel_rfl) rfl rfl
        have k9 := hk_.val 9 66 _ (by kernel_rfl) rfl rfl
        have k10 : f_ 10 = none := hk_.un
        have k13 := hk_.later 13 _ (by kernel_rfl) rfl
        have k16 := hk_.later 16 _ (by kernel_rfl) rfl
        clear hk_
        simp only [List.map_cons, List.map_nil, k8, k9, k10, k13, k16] at hM_
        simp only [List.map_cons, List.map_nil, upd_same, upd_ne f_ _ (show (8 : Nat) ≠ 10 by decide), upd_ne f_ _ (show (9 : Nat) ≠ 10 by decide), upd_ne f_ _ (show (13 : Nat) ≠ 10 by decide), upd_ne f_ _ (show (16 : Nat) ≠ 10 by decide), k8, k9, k13, k16]
        refine flow_plain rfl ?_
        obtain ⟨hbw_, ho8_, g9, e9, r9⟩ := KApp.at9 hM_
        obtain ⟨A8, c8, e8, _, _, _⟩ := own_form ho8_
        refine gives_appK _ _ _ rfl (.slice Ar L.rows.length cr) h63 (some ⟨g9, 0, none⟩) 1 1 e9 elBy (own_keepW HLG5.out.rows.own hbw_) r9 rfl (by intro u hu; simp at hu; rw [hu, e8]; rfl) hrl63 hrlby (Nat.le_trans hB5 hbw_.size) fun v' w' hown2 hg2 _ => ?_
        obtain ⟨Ax, cx, ex, _, _, _⟩ := own_form hown2
        exact ⟨⟨w_, hbw_, ho8_, hg2, hown2⟩, Ax, cx, ex⟩
      refine allFrom_cons ?_ ?_
      · refine stepK_by (by decide) ?_
        intro f_ a_ w_ hM_ hk_
        have h57 : a_.eval (.tmp 57) = (.pointer (some ⟨gl, 0, none⟩)) := hk_.got 0 57 _ (by kernel_rfl) rfl rfl
        have k8 := hk_.val 8 65 _ (by kernel_rfl) rfl rfl
        have k9 := hk_.val 9 66 _ (by kernel_rfl) rfl rfl
        have k10 := hk_.val 10 67 _ (by kernel_rfl) rfl rfl
        have k13 := hk_.later 13 _ (by kernel_rfl) rfl
        have k16 := hk_.later 16 _ (by kernel_rfl) rfl
        clear hk_
        refine flow_plain rfl ?_
        refine gives_keep hM_ ?_
        unfold gives
        have hc_ : ∀ v, a_.eval (.const v) = v := fun _ => rfl
        have hn_ : ∀ f, a_.eval (.func f) = .func (.func f) #[] #[] := fun _ => rfl
        generalize a_.eval = ρ_ at *
        go_simp
        exact ⟨rfl, rfl⟩
      refine allFrom_cons ?_ ?_
      · refine stepK_by (by decide) ?_
        intro f_ a_ w_ hM_ hk_
        have h68 : a_.eval (.tmp 68) = (.pointer (some ⟨gl, 0, none⟩)) := hk_.got 11 68 _ (by kernel_rfl) rfl rfl
        have k8 := hk_.val 8 65 _ (by kernel_rfl) rfl rfl
        have k9 := hk_.val 9 66 _ (by kernel_rfl) rfl rfl
        have k10 := hk_.val 10 67 _ (by kernel_rfl) rfl rfl
        have k13 := hk_.later 13 _ (by kernel_rfl) rfl
        have k16 := hk_.later 16 _ (by kernel_rfl) rfl
        clear hk_
        refine flow_plain rfl ?_
        refine gives_keep hM_ ?_
        unfold gives
        have hc_ : ∀ v, a_.eval (.const v) = v := fun _ => rfl
        have hn_ : ∀ f, a_.eval (.func f) = .func (.func f) #[] #[] := fun _ => rfl
        generalize a_.eval = ρ_ at *
        go_simp
        exact ⟨rfl, rfl⟩
      refine allFrom_cons ?_ ?_
      · intro f_ a_ w_ hM_ hk_
        have h69 : a_.eval (.tmp 69) = (.pointer (some ⟨gl, 4, none⟩)) := hk_.got 12 69 _ (by kernel_rfl) rfl rfl
        have h59 : a_.eval (.tmp 59) = (.slice An nl cn) := hk_.got 2 59 _ (by kernel_rfl) rfl rfl
        have k8 := hk_.val 8 65 _ (by kernel_rfl) rfl rfl
        have k9 := hk_.val 9 66 _ (by kernel_rfl) rfl rfl
        have k10 := hk_.val 10 67 _ (by kernel_rfl) rfl rfl
        have k13 : f_ 13 = none := hk_.un
        have k16 := hk_.later 16 _ (by kernel_rfl) rfl
        clear hk_
        simp only [List.map_cons, List.map_nil, k8, k9, k10, k13, k16] at hM_
        simp only [List.map_cons, List.map_nil, upd_same, upd_ne f_ _ (show (8 : Nat) ≠ 13 by decide), upd_ne f_ _ (show (9 : Nat) ≠ 13 by decide), upd_ne f_ _ (show (10 : Nat) ≠ 13 by decide), upd_ne f_ _ (show (16 : Nat) ≠ 13 by decide), k8, k9, k10, k16]
        refine flow_plain rfl ?_
        have hM2 := hM_
        obtain ⟨w2_, hb2_, ho2_, hg2_, hw2_⟩ := hM2
        have hlg_ := HLG5.out.below hb2_ hB5
        have hbl_ : Blk w_ gl tLog (logc g L (.slice Ab L.b.length cb0) (.slice Ar L.rows.length cr)) := blk_xfr hlg_.blk (XFr.of_grown (ex := [tBy]) hlg_.rows.own hg2_ (by simp) (Nat.le_trans hB5 hb2_.size)) (by decide)
        exact gives_store1 rfl h69 h59 sz23 rfl hbl_ (show 4 < 8 by omega) fun w3_ hp3_ => ⟨⟨w2_, w_, hb2_, ho2_, hg2_, hw2_, hp3_⟩, trivial⟩
      refine allFrom_cons ?_ ?_
      · refine stepK_by (by decide) ?_
        intro f_ a_ w_ hM_ hk_
        have h58 : a_.eval (.tmp 58) = (.pointer (some ⟨gl, 0, none⟩)) := hk_.got 1 58 _ (by kernel_rfl) rfl rfl
        have k8 := hk_.val 8 65 _ (by kernel_rfl) rfl rfl
        have k9 := hk_.val 9 66 _ (by kernel_rfl) rfl rfl
        have k10 := hk_.val 10 67 _ (by kernel_rfl) rfl rfl
        obtain ⟨x13, k13⟩ := hk_.done 13 _ (by kernel_rfl) rfl
        have k16 := hk_.later 16 _ (by kernel_rfl) rfl
        clear hk_
        refine flow_plain rfl ?_
        refine gives_keep hM_ ?_
        unfold gives
        have hc_ : ∀ v, a_.eval (.const v) = v := fun _ => rfl
        have hn_ : ∀ f, a_.eval (.func f) = .func (.func f) #[] #[] := fun _ => rfl
        generalize a_.eval = ρ_ at *
        go_simp
        exact ⟨rfl, rfl⟩
      refine allFrom_cons ?_ ?_
      · refine stepK_by (by decide) ?_
        intro f_ a_ w_ hM_ hk_
        have h70 : a_.eval (.tmp 70) = (.pointer (some ⟨gl, 0, none⟩)) := hk_.got 14 70 _ (by kernel_rfl) rfl rfl
        have k8 := hk_.val 8 65 _ (by kernel_rfl) rfl rfl
        have k9 := hk_.val 9 66 _ (by kernel_rfl) rfl rfl
        have k10 := hk_.val 10 67 _ (by kernel_rfl) rfl rfl
        obtain ⟨x13, k13⟩ := hk_.done 13 _ (by kernel_rfl) rfl
        have k16 := hk_.later 16 _ (by kernel_rfl) rfl
        clear hk_
        refine flow_plain rfl ?_
        refine gives_keep hM_ ?_
        unfold gives
        have hc_ : ∀ v, a_.eval (.const v) = v := fun _ => rfl
        have hn_ : ∀ f, a_.eval (.func f) = .func (.func f) #[] #[] := fun _ => rfl
        generalize a_.eval = ρ_ at *
        go_simp
        exact ⟨rfl, rfl⟩
      refine allFrom_cons ?_ ?_
      · intro f_ a_ w_ hM_ hk_
        have h71 : a_.eval (.tmp 71) = (.pointer (some ⟨gl, 5, none⟩)) := hk_.got 15 71 _ (by kernel_rfl) rfl rfl
        have h67 := hk_.got 10 67 _ (by kernel_rfl) rfl rfl
        have k8 := hk_.val 8 65 _ (by kernel_rfl) rfl rfl
        have k9 := hk_.val 9 66 _ (by kernel_rfl) rfl rfl
        have k10 := hk_.val 10 67 _ (by kernel_rfl) rfl rfl
        obtain ⟨x13, k13⟩ := hk_.done 13 _ (by kernel_rfl) rfl
        have k16 : f_ 16 = none := hk_.un
        clear hk_
        simp only [List.map_cons, List.map_nil, k8, k9, k10, k13, k16] at hM_
        simp only [List.map_cons, List.map_nil, upd_same, upd_ne f_ _ (show (8 : Nat) ≠ 16 by decide), upd_ne f_ _ (show (9 : Nat) ≠ 16 by decide), upd_ne f_ _ (show (10 : Nat) ≠ 16 by decide), upd_ne f_ _ (show (13 : Nat) ≠ 16 by decide), k8, k9, k10, k13]
        refine flow_plain rfl ?_
        have hM2 := hM_
        obtain ⟨w2_, w3_, hb2_, ho2_, hg2_, hw2_, hp3_⟩ := hM2
        obtain ⟨Ax, cx, ex⟩ := h67
        exact gives_store1 rfl h71 rfl sz22 (by rw [ex]; rfl) hp3_.blk (show 5 < 8 by omega) fun w4_ hp4_ => ⟨⟨w2_, w3_, w_, hb2_, ho2_, hg2_, hw2_, hp3_, hp4_⟩, trivial⟩
      exact allFrom_nil
    intro f_ y_ w_ hM_ hf_ hd_
    have h57 : f_ 57 = (.pointer (some ⟨gl, 0, none⟩)) := (hf_ 0 57 _ (by decide) rfl rfl).1
    have h58 : f_ 58 = (.pointer (some ⟨gl, 0, none⟩)) := (hf_ 1 58 _ (by decide) rfl rfl).1
    have h59 : f_ 59 = (.slice An nl cn) := (hf_ 2 59 _ (by decide) rfl rfl).1
    have h60 : f_ 60 = (.pointer (some ⟨gl, 0, none⟩)) := (hf_ 3 60 _ (by decide) rfl rfl).1
    have h61 : f_ 61 = (.pointer (some ⟨gl, 0, none⟩)) := (hf_ 4 61 _ (by decide) rfl rfl).1
    have h62 : f_ 62 = (.pointer (some ⟨gl, 5, none⟩)) := (hf_ 5 62 _ (by decide) rfl rfl).1
    have h63 : f_ 63 = (.slice Ar L.rows.length cr) := (hf_ 6 63 _ (by decide) rfl rfl).1
    have h64 : f_ 64 = (.slice A b.length c) := (hf_ 7 64 _ (by decide) rfl rfl).1
    have k8 := (hf_ 8 65 _ (by decide) rfl rfl).2
    have h65 := (hf_ 8 65 _ (by decide) rfl rfl).1
    have k9 := (hf_ 9 66 _ (by decide) rfl rfl).2
    have k10 := (hf_ 10 67 _ (by decide) rfl rfl).2
    have h67 := (hf_ 10 67 _ (by decide) rfl rfl).1
    have h68 : f_ 68 = (.pointer (some ⟨gl, 0, none⟩)) := (hf_ 11 68 _ (by decide) rfl rfl).1
    have h69 : f_ 69 = (.pointer (some ⟨gl, 4, none⟩)) := (hf_ 12 69 _ (by decide) rfl rfl).1
    obtain ⟨x13, k13⟩ := hd_ 13 (by decide)
    have h70 : f_ 70 = (.pointer (some ⟨gl, 0, none⟩)) := (hf_ 14 70 _ (by decide) rfl rfl).1
    have h71 : f_ 71 = (.pointer (some ⟨gl, 5, none⟩)) := (hf_ 15 71 _ (by decide) rfl rfl).1
    obtain ⟨x16, k16⟩ := hd_ 16 (by decide)
    simp only [List.map_cons, List.map_nil, k8, k9, k10, k13, k16] at hM_
    simp only [mix, List.drop_succ_cons, List.drop_zero, h57, h58, h59, h60, h61, h62, h63, h64, h68, h69, h70, h71]
    clear hf_ hd_ h57 h58 h59 h60 h61 h62 h63 h64 h68 h69 h70 h71 k8 k9 k10 k13 k16
    obtain ⟨w2_, w3_, w4_, hb2_, ho2_, hg2_, hw2_, hp3_, hp4_⟩ := hM_
    go_wp2_with fail
    refine bodyPost_ret (results_tmp rfl _ _ _) rfl ?_
    rw [HAP.out, if_neg (fun hh => hh rfl)]
    have hlg2 := HLG5.out.below hb2_ hB5
    have hB2 := Nat.le_trans hB5 hb2_.size
    have hx3 : XFr exA B wx w3_ := (XFr.of_below hb2_ hB5).trans (XFr.of_grown hlg2.rows.own hg2_ (by simp) hB2)
    have hbl3 : Blk w3_ gl tLog (logc g L (.slice Ab L.b.length cb0) (.slice Ar L.rows.length cr)) := blk_xfr hlg2.blk (XFr.of_grown (ex := [tBy]) hlg2.rows.own hg2_ (by simp) hB2) (by decide)
    have hx34 : XFr [tLog] B w3_ w_ := (XFr.of_put hbl3 hp3_ hlg2.gB (by simp)).trans (XFr.of_put hp3_.blk hp4_ hlg2.gB (by simp))
    have hx4 : XFr exA B wx w_ := hx3.trans (hx34.wide (by simp))
    have hdk := (hlg2.disk.grownRow hlg2.rows.own hg2_ (by decide) (by decide)).put_int hbl3 hp3_ (by decide) (by decide)
    have hdk4 := hdk.put_int hp3_.blk hp4_ (by decide) (by decide)
    have hro := (hlg2.rows.app (own_lessW ho2_ hB5) hw2_ hg2_).xfr hx34 (by decide) (by decide)
    have hso := (HSN.out.xfr hx5 (by decide)).xfr hx3 (by decide)
    refine ⟨rfl, ⟨.slice An nl cn, _, _, hdk4, hp4_.blk, ?_, hro, hlg2.gB, hlg2.size, hlg2.turn, hlg2.area, ?_, ?_, ?_, ?_⟩, (hx05.wide (by simp)).trans hx4⟩
    · rw [HNL2.out]
      exact hso.xfr hx34 (by decide)
    · show now.length ≤ L.size * 256
      rw [← HNL2.out]
      exact hnl9.1
    · show L.sure ≤ (L.rows ++ [b]).length
      rw [List.length_append]
      have := hlg2.sure
      omega
    · show (L.rows ++ [b]).length * 8 ≤ now.length
      rw [List.length_append, HNL.out, show [b].length = 1 from rfl]
      have := hlg2.many
      omega
    · intro r hr
      rcases List.mem_append.1 hr with hr | hr
      · exact hlg2.short r hr
      · obtain rfl := List.mem_singleton.1 hr
        omega
  · have e1 : (E == 0) = false := by simpa using hE0
    have e2 : (E != 0) = true := by simpa using hE0
    have HE0 := hid hE0
    clear hE0
    go_wp2_with fail
    refine bodyPost_ret (results_tmp rfl _ _ _) rfl ?_
    rw [HAP.out, if_pos HE0.out]
    exact ⟨rfl, ⟨_, _, _, hlg5⟩, ((XFr.of_below HB04.out hB).trans hx5).wide (by simp)⟩
end Go.Proofs.Ytlpdiamgpnmeoaa
