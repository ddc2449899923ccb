
/- Records: Sync walked. -/
import Derived.Test.YtlpdiamgpnmeoaaWaP
namespace Go.Proofs.Ytlpdiamgpnmeoaa
open Go.RowKit
set_option linter.unusedVariables false
/-- The steps: a super is written; the disk is synced. -/
def markS (turn area tail : Nat) : DS → Int × DS := fun D => (writeE D ((turn % 2 : Nat) : Int) (superL turn area tail), writeD D ((turn % 2 : Nat) : Int) (superL turn area tail))
def dsynS : DS → Int × DS := fun D => (syncE D, syncW D)
def layS (f : Nat) (c : List UInt8) : DS → Int × DS := fun D => (layE D f c, layD D f c)
theorem syncW_n (D : DS) : (syncW D).n = D.n := by
  unfold syncW
  split
  · rfl
  · split
    · exact countD_n D
    · exact countD_n D
theorem syncW_loose (D : DS) : (syncW D).loose.length ≤ D.loose.length := by
  unfold syncW
  split
  · exact Nat.le_refl _
  · split
    · show ([] : List (Int × List UInt8)).length ≤ _
      exact Nat.zero_le _
    · rw [countD_loose]
      exact Nat.le_refl _
/-- Sync: the error, the disk, the log. -/
def synS (D : DS) (L : LS) : Int × DS × LS :=
  if L.e ≠ 0 ∨ L.sure = L.rows.length then (L.e, D, L) else
    if (runS [dsynS, markS (L.turn + 1) L.area L.b.length, dsynS] D).1 ≠ 0 then ((runS [dsynS, markS (L.turn + 1) L.area L.b.length, dsynS] D).1, (runS [dsynS, markS (L.turn + 1) L.area L.b.length, dsynS] D).2, { L with e := (runS [dsynS, markS (L.turn + 1) L.area L.b.length, dsynS] D).1 })
    else (0, (runS [dsynS, markS (L.turn + 1) L.area L.b.length, dsynS] D).2, { L with turn := L.turn + 1, sure := L.rows.length })
/-- What mark tells. -/
def MarkF (w : World) (gl area tail : Nat) (v : Value) : Prop := ∃ p0 p1 p2, v = .func (.func 54) #[] #[.pointer (some ⟨p0, 0, none⟩), .pointer (some ⟨p1, 0, none⟩), .pointer (some ⟨p2, 0, none⟩)] ∧ Blk w p0 tPL #[.pointer (some ⟨gl, 0, none⟩)] ∧ Blk w p1 tInt #[.int .i64 (area : Int)] ∧ Blk w p2 tInt #[.int .i64 (tail : Int)]
theorem MarkF.below {w w' : World} {gl area tail : Nat} {v : Value} (h : MarkF w gl area tail v) (hb : Below w.heap.size w w') : MarkF w' gl area tail v := by
  obtain ⟨p0, p1, p2, h0, h1, h2, h3⟩ := h
  exact ⟨p0, p1, p2, h0, h1.below hb h1.lt, h2.below hb h2.lt, h3.below hb h3.lt⟩
def FP.markF (gl area tail : Nat) : FP := ⟨fun v w => MarkF w gl area tail v, fun _ _ _ hb h => h.below hb⟩
theorem enMark : ∀ args w, (callFunc 54 args).run Try.prog w = .ok (.enter 54 args) w := enters_of Try.func54 (by kernel_rfl) rfl
theorem enSync : ∀ args w, (callFunc 35 args).run Try.prog w = .ok (.enter 35 args) w := enters_of Try.func35 (by kernel_rfl) rfl
theorem mark_step {w : World} {B gl g : Nat} {D : DS} {L : LS} {vb vr : Value} {vs : List Value} (hB : B ≤ w.heap.size) {area tail : Nat} {fv : Value} (hf : MarkF w gl area tail fv) (ht : L.turn + 1 < 18446744073709551616) (ha : area < 2) (hl : tail < 1000000000) (hroom : D.loose.length < 1000000) {n : Nat} (hn : D.n = n) :
    StepAt w B gl g L vb vr vs n fv (markS (L.turn + 1) area tail) D := by
  obtain ⟨p0, p1, p2, rfl, h0, h1, h2⟩ := hf
  refine ⟨_, _, _, rfl, enMark, fun W hx hlog => ?_⟩
  refine (mark1_any W hlog (Nat.le_trans hB hx.below.size) (blk_xfr h0 hx (by decide)) (blk_xfr h1 hx (by decide)) (blk_xfr h2 hx (by decide)) ht ha hl hroom).mono ?_
  rintro e W' ⟨rfl, h5, h6⟩
  exact ⟨rfl, h5, (writeD_n _ _ _).trans hn, h6⟩
theorem sync_step {w : World} {B gl g : Nat} {D : DS} {L : LS} {vb vr : Value} {vs : List Value} {n : Nat} (hn : D.n = n) :
    StepAt w B gl g L vb vr vs n (.func (.func 35) #[.pointer (some ⟨g, 0, none⟩)] #[]) dsynS D := by
  refine ⟨_, _, _, rfl, enSync, fun W hx hlog => ?_⟩
  refine (Sync_any W hlog.disk).mono ?_
  rintro e W' ⟨rfl, h5, h6⟩
  exact ⟨rfl, h5, (syncW_n _).trans hn, h6⟩
/-- The three closures of a sync, in a row of their own. -/
def FP.syn3 (g gl area tail : Nat) : FP := ⟨fun v w => ∃ gr fm, v = .slice (some ⟨gr, 0, none⟩) 3 3 ∧ Blk w gr tFn #[.func (.func 35) #[.pointer (some ⟨g, 0, none⟩)] #[], fm, .func (.func 35) #[.pointer (some ⟨g, 0, none⟩)] #[]] ∧ MarkF w gl area tail fm, fun _ _ _ hb h => by
  obtain ⟨gr, fm, h1, h2, h3⟩ := h
  exact ⟨gr, fm, h1, h2.below hb h2.lt, h3.below hb⟩⟩
theorem three_steps {w : World} {B gl g : Nat} {D : DS} {L : LS} {vb vr : Value} {vs : List Value} {f1 f2 f3 : Value} {s1 s2 s3 : DS → Int × DS} (h1 : StepAt w B gl g L vb vr vs D.n f1 s1 D) (h2 : (s1 D).1 = 0 → StepAt w B gl g L vb vr vs D.n f2 s2 (s1 D).2)
    (h3 : (s1 D).1 = 0 → (s2 (s1 D).2).1 = 0 → StepAt w B gl g L vb vr vs D.n f3 s3 (s2 (s1 D).2).2) :
    ∀ (i : Nat) (fv' : Value) (s' : DS → Int × DS), [f1, f2, f3][i]? = some fv' → [s1, s2, s3][i]? = some s' → (runS ([s1, s2, s3].take i) D).1 = 0 → StepAt w B gl g L vb vr vs D.n fv' s' (runS ([s1, s2, s3].take i) D).2 := by
  intro i fv' s' q1 q2 q3
  match i, q1, q2, q3 with
  | 0, q1, q2, q3 =>
    injection q1 with q1
    injection q2 with q2
    subst q1 q2
    exact h1
  | 1, q1, q2, q3 =>
    injection q1 with q1
    injection q2 with q2
    subst q1 q2
    rw [show [s1, s2, s3].take 1 = [s1] from rfl, runS_one] at q3 ⊢
    exact h2 q3
  | 2, q1, q2, q3 =>
    injection q1 with q1
    injection q2 with q2
    subst q1 q2
    have he : runS ([s1, s2, s3].take 2) D = if (s1 D).1 = 0 then s2 (s1 D).2 else s1 D := by
      rw [show [s1, s2, s3].take 2 = [s1] ++ [s2] from rfl, runS_snoc, runS_one]
    rw [he] at q3 ⊢
    split at q3
    · rename_i hh
      rw [if_pos hh]
      exact h3 hh q3
    · rename_i hh
      exact absurd q3 hh
set_option maxRecDepth 100000 in
set_option maxHeartbeats 2000000 in
theorem LSync_go (w : World) {B gl g : Nat} {D : DS} {L : LS} {vb vr : Value} {vs : List Value} (h : IsLog w B gl g D L vb vr vs) (hB : B ≤ w.heap.size) (hs : L.size ≤ 1000) (hroom : D.loose.length < 1000000) (ht : L.turn + 1 < 18446744073709551616) (he : L.e = 0) (hsu : L.sure ≠ L.rows.length) :
    Calls Try.prog 14 #[.pointer (some ⟨gl, 0, none⟩)] w fun e w' => e = .returned (.int .i64 (synS D L).1) ∧ ALog w' B gl g (synS D L).2.1 (synS D L).2.2 ∧ XFr exL B w w' := by
  obtain ⟨R, hR⟩ : ∃ R, R = runS [dsynS, markS (L.turn + 1) L.area L.b.length, dsynS] D := ⟨_, rfl⟩
  have hsyn : synS D L = if R.1 ≠ 0 then (R.1, R.2, { L with e := R.1 }) else (0, R.2, { L with turn := L.turn + 1, sure := L.rows.length }) := by
    unfold synS
    rw [if_neg (by rintro (h1 | h1); exact h1 he; exact hsu h1), ← hR]
  have hby := h.by_
  obtain ⟨Ab, cb0, rfl, hcb0, hcm0, _, _⟩ := hby
  obtain ⟨Ar, cr, rfl, hcr, hmr, _⟩ := own_form h.rows.own
  have hall : ∀ (W : World), Below w.heap.size w W → ∀ gr fm, Blk W gr tFn #[.func (.func 35) #[.pointer (some ⟨g, 0, none⟩)] #[], fm, .func (.func 35) #[.pointer (some ⟨g, 0, none⟩)] #[]] → MarkF W gl L.area L.b.length fm →
      Calls Try.prog 32 #[.pointer (some ⟨gl, 0, none⟩), .slice (some ⟨gr, 0, none⟩) 3 3] W fun e w' => e = .returned (.int .i64 R.1) ∧ IsLog w' B gl g R.2 { L with e := R.1 } (.slice Ab L.b.length cb0) (.slice Ar L.rows.length cr) vs ∧ XFr exL B W w' := by
    intro W hb gr fm hbr hmf
    have hBW := Nat.le_trans hB hb.size
    have hgo := all_any W (h.below hb hB) he (A := some ⟨gr, 0, none⟩) (c := 3) (fvs := [.func (.func 35) #[.pointer (some ⟨g, 0, none⟩)] #[], fm, .func (.func 35) #[.pointer (some ⟨g, 0, none⟩)] #[]]) (fun W2 hx => rd_of_row (blk_xfr hbr hx (by decide)) rfl) [dsynS, markS (L.turn + 1) L.area L.b.length, dsynS] rfl (by show 3 ≤ 4; omega)
      (three_steps (sync_step rfl) (fun _ => mark_step hBW hmf ht h.area (by have := h.len; omega) (Nat.lt_of_le_of_lt (syncW_loose D) hroom) (syncW_n D)) (fun _ _ => sync_step ((writeD_n _ _ _).trans (syncW_n D))))
    rw [← hR] at hgo
    exact hgo
  have lgl := h.blk.lt
  have c0 : w.cell? ⟨gl, 0, none⟩ = some (.pointer (some ⟨g, 0, none⟩)) := h.blk.cell 0
  have c3 : w.cell? ⟨gl, 3, none⟩ = some (.int .i64 (L.area : Int)) := h.blk.cell 3
  have c4 : w.cell? ⟨gl, 4, none⟩ = some (.slice Ab L.b.length cb0) := h.blk.cell 4
  have c5 : w.cell? ⟨gl, 5, none⟩ = some (.slice Ar L.rows.length cr) := h.blk.cell 5
  have c6 : w.cell? ⟨gl, 6, none⟩ = some (.int .i64 (L.sure : Int)) := h.blk.cell 6
  have c7 : w.cell? ⟨gl, 7, none⟩ = some (.int .i64 0) := by rw [h.blk.cell 7, he.symm]; rfl
  have hsi : ((L.sure : Int) == (L.rows.length : Int)) = false := by simp; omega
  have HSY := hid hsyn
  have HL := hid h
  have HA := hid hall
  have HE := hid he
  have HSU := hid hsu
  have HT := hid ht
  clear hsyn h hall he hR hsu ht
  go_enter Try.func14, Try.ntmps14
  go_wp2_with fail
  refine wp_flow (by kernel_rfl) [0, 1, 3, 7, 15, 31, 63, 127, 255, 511, 63, 1087, 3135, 7231, 15423, 32767, 65535, 131071] 18 [false, false, false, false, false, false, false, true, true, true, true, true, true, true, true, true, true, true, true, true, true, true, true, true, true] (by kernel_rfl) (by decide) (by kernel_rfl) [FP.eq (.pointer (some ⟨gl, 0, none⟩)), FP.eq (.pointer (some ⟨gl, 0, none⟩)), FP.eq (.pointer (some ⟨gl, 7, none⟩)), FP.eq (.int .i64 0), FP.eq (.bool false), FP.eq (.bool false), FP.eq (.pointer (some ⟨gl, 0, none⟩)), FP.eq (.pointer (some ⟨gl, 0, none⟩)), FP.eq (.pointer (some ⟨gl, 6, none⟩)), FP.eq (.int .i64 (L.sure : Int)), FP.eq (.pointer (some ⟨gl, 0, none⟩)), FP.eq (.pointer (some ⟨gl, 0, none⟩)), FP.eq (.pointer (some ⟨gl, 5, none⟩)), FP.eq (.slice Ar L.rows.length cr), FP.eq (.int .i64 (L.rows.length : Int)), FP.eq (.bool false), FP.eq (.bool false), FP.eq (.bool false)] ?_ ?_
  · refine allFrom_cons ?_ ?_
    · intro a_ w_ hk_
      have h0 : a_.eval (.tmp 0) = .pointer (some ⟨gl, 0, none⟩) := hk_.old 0 (by kernel_rfl)
      have hx_ := hk_.ext
      clear hk_
      refine flow_plain rfl ?_
      exact gives_move rfl ⟨Below.refl _ _, h0⟩
    refine allFrom_cons ?_ ?_
    · intro a_ w_ hk_
      have h8 : a_.eval (.tmp 8) = (.pointer (some ⟨gl, 0, none⟩)) := hk_.got 0 8 _ (by kernel_rfl) rfl rfl
      have hx_ := hk_.ext
      clear hk_
      refine flow_plain rfl ?_
      unfold gives
      have hc_ : ∀ v, a_.eval (.const v) = v := fun _ => rfl
      have hn_ : ∀ f, a_.eval (.func f) = .func (.func f) #[] #[] := fun _ => rfl
      generalize a_.eval = ρ_ at *
      go_simp
      exact ⟨Below.refl _ _, rfl⟩
    refine allFrom_cons ?_ ?_
    · intro a_ w_ hk_
      have h9 : a_.eval (.tmp 9) = (.pointer (some ⟨gl, 0, none⟩)) := hk_.got 1 9 _ (by kernel_rfl) rfl rfl
      have hx_ := hk_.ext
      clear hk_
      refine flow_plain rfl ?_
      unfold gives
      have hc_ : ∀ v, a_.eval (.const v) = v := fun _ => rfl
      have hn_ : ∀ f, a_.eval (.func f) = .func (.func f) #[] #[] := fun _ => rfl
      generalize a_.eval = ρ_ at *
      go_simp
      exact ⟨Below.refl _ _, rfl⟩
    refine allFrom_cons ?_ ?_
    · intro a_ w_ hk_
      have h10 : a_.eval (.tmp 10) = (.pointer (some ⟨gl, 7, none⟩)) := hk_.got 2 10 _ (by kernel_rfl) rfl rfl
      have hx_ := hk_.ext
      clear hk_
      refine flow_plain rfl ?_
      unfold gives
      have hc_ : ∀ v, a_.eval (.const v) = v := fun _ => rfl
      have hn_ : ∀ f, a_.eval (.func f) = .func (.func f) #[] #[] := fun _ => rfl
      have hcell := (hx_.cell (p := ⟨gl, 7, none⟩) lgl).trans c7
      generalize a_.eval = ρ_ at *
      go_simp
      exact ⟨Below.refl _ _, rfl⟩
    refine allFrom_cons ?_ ?_
    · intro a_ w_ hk_
      have h11 : a_.eval (.tmp 11) = (.int .i64 0) := hk_.got 3 11 _ (by kernel_rfl) rfl rfl
      have hx_ := hk_.ext
      clear hk_
      refine flow_plain rfl ?_
      unfold gives
      have hc_ : ∀ v, a_.eval (.const v) = v := fun _ => rfl
      have hn_ : ∀ f, a_.eval (.func f) = .func (.func f) #[] #[] := fun _ => rfl
      generalize a_.eval = ρ_ at *
      go_simp
      exact ⟨Below.refl _ _, rfl⟩
    refine allFrom_cons ?_ ?_
    · intro a_ w_ hk_
      have h12 : a_.eval (.tmp 12) = (.bool false) := hk_.got 4 12 _ (by kernel_rfl) rfl rfl
      have hx_ := hk_.ext
      clear hk_
      refine flow_plain rfl ?_
      exact gives_move rfl ⟨Below.refl _ _, h12⟩
    refine allFrom_cons ?_ ?_
    · intro a_ w_ hk_
      have h0 : a_.eval (.tmp 0) = .pointer (some ⟨gl, 0, none⟩) := hk_.old 0 (by kernel_rfl)
      have hg_ : a_.eval (.tmp 13) = .bool false := hk_.got 5 13 _ (by kernel_rfl) rfl rfl
      have hy_ := hk_.want 5 _ 13 false rfl rfl hg_
      have hx_ := hk_.ext
      clear hk_
      refine flow_want rfl hy_ ?_
      exact gives_move rfl ⟨Below.refl _ _, h0⟩
    refine allFrom_cons ?_ ?_
    · intro a_ w_ hk_
      have h14 : a_.eval (.tmp 14) = (.pointer (some ⟨gl, 0, none⟩)) := hk_.got 6 14 _ (by kernel_rfl) rfl rfl
      have hg_ : a_.eval (.tmp 13) = .bool false := hk_.got 5 13 _ (by kernel_rfl) rfl rfl
      have hy_ := hk_.want 5 _ 13 false rfl rfl hg_
      have hx_ := hk_.ext
      clear hk_
      refine flow_want rfl hy_ ?_
      unfold gives
      have hc_ : ∀ v, a_.eval (.const v) = v := fun _ => rfl
      have hn_ : ∀ f, a_.eval (.func f) = .func (.func f) #[] #[] := fun _ => rfl
      clear hy_ hg_
      generalize a_.eval = ρ_ at *
      go_simp
      exact ⟨Below.refl _ _, rfl⟩
    refine allFrom_cons ?_ ?_
    · intro a_ w_ hk_
      have h15 : a_.eval (.tmp 15) = (.pointer (some ⟨gl, 0, none⟩)) := hk_.got 7 15 _ (by kernel_rfl) rfl rfl
      have hg_ : a_.eval (.tmp 13) = .bool false := hk_.got 5 13 _ (by kernel_rfl) rfl rfl
      have hy_ := hk_.want 5 _ 13 false rfl rfl hg_
      have hx_ := hk_.ext
      clear hk_
      refine flow_want rfl hy_ ?_
      unfold gives
      have hc_ : ∀ v, a_.eval (.const v) = v := fun _ => rfl
      have hn_ : ∀ f, a_.eval (.func f) = .func (.func f) #[] #[] := fun _ => rfl
      clear hy_ hg_
      generalize a_.eval = ρ_ at *
      go_simp
      exact ⟨Below.refl _ _, rfl⟩
    refine allFrom_cons ?_ ?_
    · intro a_ w_ hk_
      have h16 : a_.eval (.tmp 16) = (.pointer (some ⟨gl, 6, none⟩)) := hk_.got 8 16 _ (by kernel_rfl) rfl rfl
      have hg_ : a_.eval (.tmp 13) = .bool false := hk_.got 5 13 _ (by kernel_rfl) rfl rfl
      have hy_ := hk_.want 5 _ 13 false rfl rfl hg_
      have hx_ := hk_.ext
      clear hk_
      refine flow_want rfl hy_ ?_
      unfold gives
      have hc_ : ∀ v, a_.eval (.const v) = v := fun _ => rfl
      have hn_ : ∀ f, a_.eval (.func f) = .func (.func f) #[] #[] := fun _ => rfl
      clear hy_ hg_
      have hcell := (hx_.cell (p := ⟨gl, 6, none⟩) lgl).trans c6
      generalize a_.eval = ρ_ at *
      go_simp
      exact ⟨Below.refl _ _, rfl⟩
    refine allFrom_cons ?_ ?_
    · intro a_ w_ hk_
      have h0 : a_.eval (.tmp 0) = .pointer (some ⟨gl, 0, none⟩) := hk_.old 0 (by kernel_rfl)
      have hg_ : a_.eval (.tmp 13) = .bool false := hk_.got 5 13 _ (by kernel_rfl) rfl rfl
      have hy_ := hk_.want 5 _ 13 false rfl rfl hg_
      have hx_ := hk_.ext
      clear hk_
      refine flow_want rfl hy_ ?_
      exact gives_move rfl ⟨Below.refl _ _, h0⟩
    refine allFrom_cons ?_ ?_
    · intro a_ w_ hk_
      have h18 : a_.eval (.tmp 18) = (.pointer (some ⟨gl, 0, none⟩)) := hk_.got 10 18 _ (by kernel_rfl) rfl rfl
      have hg_ : a_.eval (.tmp 13) = .bool false := hk_.got 5 13 _ (by kernel_rfl) rfl rfl
      have hy_ := hk_.want 5 _ 13 false rfl rfl hg_
      have hx_ := hk_.ext
      clear hk_
      refine flow_want rfl hy_ ?_
      unfold gives
      have hc_ : ∀ v, a_.eval (.const v) = v := fun _ => rfl
      have hn_ : ∀ f, a_.eval (.func f) = .func (.func f) #[] #[] := fun _ => rfl
      clear hy_ hg_
      generalize a_.eval = ρ_ at *
      go_simp
      exact ⟨Below.refl _ _, rfl⟩
    refine allFrom_cons ?_ ?_
    · intro a_ w_ hk_
      have h19 : a_.eval (.tmp 19) = (.pointer (some ⟨gl, 0, none⟩)) := hk_.got 11 19 _ (by kernel_rfl) rfl rfl
      have hg_ : a_.eval (.tmp 13) = .bool false := hk_.got 5 13 _ (by kernel_rfl) rfl rfl
      have hy_ := hk_.want 5 _ 13 false rfl rfl hg_
      have hx_ := hk_.ext
      clear hk_
      refine flow_want rfl hy_ ?_
      unfold gives
      have hc_ : ∀ v, a_.eval (.const v) = v := fun _ => rfl
      have hn_ : ∀ f, a_.eval (.func f) = .func (.func f) #[] #[] := fun _ => rfl
      clear hy_ hg_
      generalize a_.eval = ρ_ at *
      go_simp
      exact ⟨Below.refl _ _, rfl⟩
    refine allFrom_cons ?_ ?_
    · intro a_ w_ hk_
      have h20 : a_.eval (.tmp 20) = (.pointer (some ⟨gl, 5, none⟩)) := hk_.got 12 20 _ (by kernel_rfl) rfl rfl
      have hg_ : a_.eval (.tmp 13) = .bool false := hk_.got 5 13 _ (by kernel_rfl) rfl rfl
      have hy_ := hk_.want 5 _ 13 false rfl rfl hg_
      have hx_ := hk_.ext
      clear hk_
      refine flow_want rfl hy_ ?_
      unfold gives
      have hc_ : ∀ v, a_.eval (.const v) = v := fun _ => rfl
      have hn_ : ∀ f, a_.eval (.func f) = .func (.func f) #[] #[] := fun _ => rfl
      clear hy_ hg_
      have hcell := (hx_.cell (p := ⟨gl, 5, none⟩) lgl).trans c5
      generalize a_.eval = ρ_ at *
      go_simp
      exact ⟨Below.refl _ _, rfl⟩
    refine allFrom_cons ?_ ?_
    · intro a_ w_ hk_
      have h21 : a_.eval (.tmp 21) = (.slice Ar L.rows.length cr) := hk_.got 13 21 _ (by kernel_rfl) rfl rfl
      have hg_ : a_.eval (.tmp 13) = .bool false := hk_.got 5 13 _ (by kernel_rfl) rfl rfl
      have hy_ := hk_.want 5 _ 13 false rfl rfl hg_
      have hx_ := hk_.ext
      clear hk_
      refine flow_want rfl hy_ ?_
      unfold gives
      have hc_ : ∀ v, a_.eval (.const v) = v := fun _ => rfl
      have hn_ : ∀ f, a_.eval (.func f) = .func (.func f) #[] #[] := fun _ => rfl
      clear hy_ hg_
      generalize a_.eval = ρ_ at *
      go_simp
      exact ⟨Below.refl _ _, rfl⟩
    refine allFrom_cons ?_ ?_
    · intro a_ w_ hk_
      have h17 : a_.eval (.tmp 17) = (.int .i64 (L.sure : Int)) := hk_.got 9 17 _ (by kernel_rfl) rfl rfl
      have h22 : a_.eval (.tmp 22) = (.int .i64 (L.rows.length : Int)) := hk_.got 14 22 _ (by kernel_rfl) rfl rfl
      have hg_ : a_.eval (.tmp 13) = .bool false := hk_.got 5 13 _ (by kernel_rfl) rfl rfl
      have hy_ := hk_.want 5 _ 13 false rfl rfl hg_
      have hx_ := hk_.ext
      clear hk_
      refine flow_want rfl hy_ ?_
      unfold gives
      have hc_ : ∀ v, a_.eval (.const v) = v := fun _ => rfl
      have hn_ : ∀ f, a_.eval (.func f) = .func (.func f) #[] #[] := fun _ => rfl
      clear hy_ hg_
      generalize a_.eval = ρ_ at *
      go_simp
      exact ⟨Below.refl _ _, rfl⟩
    refine allFrom_cons ?_ ?_
    · intro a_ w_ hk_
      have h13 : a_.eval (.tmp 13) = (.bool false) := hk_.got 5 13 _ (by kernel_rfl) rfl rfl
      have h23 : a_.eval (.tmp 23) = (.bool false) := hk_.got 15 23 _ (by kernel_rfl) rfl rfl
      have hx_ := hk_.ext
      clear hk_
      refine flow_plain rfl ?_
      exact gives_pick rfl h13 ⟨Below.refl _ _, h23⟩
    refine allFrom_cons ?_ ?_
    · intro a_ w_ hk_
      have h24 : a_.eval (.tmp 24) = (.bool false) := hk_.got 16 24 _ (by kernel_rfl) rfl rfl
      have hx_ := hk_.ext
      clear hk_
      refine flow_plain rfl ?_
      exact gives_assign rfl ⟨Below.refl _ _, h24⟩
    exact allFrom_nil
  intro f_ w_ hx_ hf_
  have h8 : f_ 8 = (.pointer (some ⟨gl, 0, none⟩)) := hf_ 0 8 _ (by decide) rfl rfl
  have h9 : f_ 9 = (.pointer (some ⟨gl, 0, none⟩)) := hf_ 1 9 _ (by decide) rfl rfl
  have h10 : f_ 10 = (.pointer (some ⟨gl, 7, none⟩)) := hf_ 2 10 _ (by decide) rfl rfl
  have h11 : f_ 11 = (.int .i64 0) := hf_ 3 11 _ (by decide) rfl rfl
  have h12 : f_ 12 = (.bool false) := hf_ 4 12 _ (by decide) rfl rfl
  have h13 : f_ 13 = (.bool false) := hf_ 5 13 _ (by decide) rfl rfl
  have h14 : f_ 14 = (.pointer (some ⟨gl, 0, none⟩)) := hf_ 6 14 _ (by decide) rfl rfl
  have h15 : f_ 15 = (.pointer (some ⟨gl, 0, none⟩)) := hf_ 7 15 _ (by decide) rfl rfl
  have h16 : f_ 16 = (.pointer (some ⟨gl, 6, none⟩)) := hf_ 8 16 _ (by decide) rfl rfl
  have h17 : f_ 17 = (.int .i64 (L.sure : Int)) := hf_ 9 17 _ (by decide) rfl rfl
  have h18 : f_ 18 = (.pointer (some ⟨gl, 0, none⟩)) := hf_ 10 18 _ (by decide) rfl rfl
  have h19 : f_ 19 = (.pointer (some ⟨gl, 0, none⟩)) := hf_ 11 19 _ (by decide) rfl rfl
  have h20 : f_ 20 = (.pointer (some ⟨gl, 5, none⟩)) := hf_ 12 20 _ (by decide) rfl rfl
  have h21 : f_ 21 = (.slice Ar L.rows.length cr) := hf_ 13 21 _ (by decide) rfl rfl
  have h22 : f_ 22 = (.int .i64 (L.rows.length : Int)) := hf_ 14 22 _ (by decide) rfl rfl
  have h23 : f_ 23 = (.bool false) := hf_ 15 23 _ (by decide) rfl rfl
  have h24 : f_ 24 = (.bool false) := hf_ 16 24 _ (by decide) rfl rfl
  have h7 : f_ 7 = (.bool false) := hf_ 17 7 _ (by decide) rfl rfl
  simp only [mix, List.drop_succ_cons, List.drop_zero, h8, h9, h10, h11, h12, h13, h14, h15, h16, h17, h18, h19, h20, h21, h22, h23, h24, h7]
  clear h8 h9 h10 h11 h12 h13 h14 h15 h16 h17 h18 h19 h20 h21 h22 h23 h24 h7
  clear hf_
  have hBx := Nat.le_trans hB hx_.size
  have lx := Nat.lt_of_lt_of_le lgl hx_.size
  have c0x := (hx_.cell (p := ⟨gl, 0, none⟩) lgl).trans c0
  have c3x := (hx_.cell (p := ⟨gl, 3, none⟩) lgl).trans c3
  have c4x := (hx_.cell (p := ⟨gl, 4, none⟩) lgl).trans c4
  obtain ⟨wx, hwx⟩ : ∃ wx, wx = w_ := ⟨_, rfl⟩
  rw [← hwx] at hx_ c0x c3x c4x hBx lx ⊢
  have HX := hid hx_
  clear hwx hx_
  go_wp2_with fail
  refine wp_flowQ (by kernel_rfl) [0, 0, 2, 6, 14, 30, 0, 0, 128, 384, 896, 0, 2048, 6144, 14336, 30720, 65472, 0, 131072, 393216, 917504, 1966080, 4194302, 8388607, 16777215] 23 [false, false, false, false, false, false, false, false, false, false, false, false, false, false, false, false, false, false, false, false, false, false, false, false, false, false, false, false, false, true, true, true, true, true, true, true, true, true, true, true, true, true, true, true, true, true, true, true, true, true, true, true, true] (by kernel_rfl) (by decide) (by kernel_rfl) [FP.eq (.pointer (some ⟨gl, 0, none⟩)), FP.eq (.pointer (some ⟨gl, 0, none⟩)), FP.eq (.pointer (some ⟨gl, 0, none⟩)), FP.eq (.pointer (some ⟨gl, 0, none⟩)), FP.eq (.pointer (some ⟨g, 0, none⟩)), FP.eq (.func (.func 35) #[.pointer (some ⟨g, 0, none⟩)] #[]), FP.eq (.pointer (some ⟨gl, 0, none⟩)), FP.eq (.pointer (some ⟨gl, 0, none⟩)), FP.eq (.pointer (some ⟨gl, 0, none⟩)), FP.eq (.pointer (some ⟨gl, 3, none⟩)), FP.eq (.int .i64 (L.area : Int)), FP.eq (.pointer (some ⟨gl, 0, none⟩)), FP.eq (.pointer (some ⟨gl, 0, none⟩)), FP.eq (.pointer (some ⟨gl, 4, none⟩)), FP.eq (.slice Ab L.b.length cb0), FP.eq (.int .i64 (L.b.length : Int)), FP.markF gl L.area L.b.length, FP.eq (.pointer (some ⟨gl, 0, none⟩)), FP.eq (.pointer (some ⟨gl, 0, none⟩)), FP.eq (.pointer (some ⟨gl, 0, none⟩)), FP.eq (.pointer (some ⟨g, 0, none⟩)), FP.eq (.func (.func 35) #[.pointer (some ⟨g, 0, none⟩)] #[]), FP.syn3 g gl L.area L.b.length] (fun v w' => v = .int .i64 R.1 ∧ IsLog w' B gl g R.2 { L with e := R.1 } (.slice Ab L.b.length cb0) (.slice Ar L.rows.length cr) vs ∧ XFr exL B wx w') ?_ (q_of rfl ⟨rfl, ?_⟩) ?_
  · refine allFrom_cons (stepQ_yes (by kernel_rfl) ?_) ?_
    · intro a_ w_ hk_
      have h0 : a_.eval (.tmp 0) = .pointer (some ⟨gl, 0, none⟩) := hk_.old 0 (by kernel_rfl)
      have hx_ := hk_.ext
      clear hk_
      refine flow_plain rfl ?_
      exact gives_move rfl ⟨Below.refl _ _, h0⟩
    refine allFrom_cons (stepQ_yes (by kernel_rfl) ?_) ?_
    · intro a_ w_ hk_
      have h0 : a_.eval (.tmp 0) = .pointer (some ⟨gl, 0, none⟩) := hk_.old 0 (by kernel_rfl)
      have hx_ := hk_.ext
      clear hk_
      refine flow_plain rfl ?_
      exact gives_move rfl ⟨Below.refl _ _, h0⟩
    refine allFrom_cons (stepQ_yes (by kernel_rfl) ?_) ?_
    · intro a_ w_ hk_
      have h30 : a_.eval (.tmp 30) = (.pointer (some ⟨gl, 0, none⟩)) := hk_.got 1 30 _ (by kernel_rfl) rfl rfl
      have hx_ := hk_.ext
      clear hk_
      refine flow_plain rfl ?_
      unfold gives
      have hc_ : ∀ v, a_.eval (.const v) = v := fun _ => rfl
      have hn_ : ∀ f, a_.eval (.func f) = .func (.func f) #[] #[] := fun _ => rfl
      generalize a_.eval = ρ_ at *
      go_simp
      exact ⟨Below.refl _ _, rfl⟩
    refine allFrom_cons (stepQ_yes (by kernel_rfl) ?_) ?_
    · intro a_ w_ hk_
      have h31 : a_.eval (.tmp 31) = (.pointer (some ⟨gl, 0, none⟩)) := hk_.got 2 31 _ (by kernel_rfl) rfl rfl
      have hx_ := hk_.ext
      clear hk_
      refine flow_plain rfl ?_
      unfold gives
      have hc_ : ∀ v, a_.eval (.const v) = v := fun _ => rfl
      have hn_ : ∀ f, a_.eval (.func f) = .func (.func f) #[] #[] := fun _ => rfl
      generalize a_.eval = ρ_ at *
      go_simp
      exact ⟨Below.refl _ _, rfl⟩
    refine allFrom_cons (stepQ_yes (by kernel_rfl) ?_) ?_
    · intro a_ w_ hk_
      have h32 : a_.eval (.tmp 32) = (.pointer (some ⟨gl, 0, none⟩)) := hk_.got 3 32 _ (by kernel_rfl) rfl rfl
      have hx_ := hk_.ext
      clear hk_
      refine flow_plain rfl ?_
      unfold gives
      have hc_ : ∀ v, a_.eval (.const v) = v := fun _ => rfl
      have hn_ : ∀ f, a_.eval (.func f) = .func (.func f) #[] #[] := fun _ => rfl
      have hcell := (hx_.cell (p := ⟨gl, 0, none⟩) lx).trans c0x
      generalize a_.eval = ρ_ at *
      go_simp
      exact ⟨Below.refl _ _, rfl⟩
    refine allFrom_cons (stepQ_yes (by kernel_rfl) ?_) ?_
    · intro a_ w_ hk_
      have h33 : a_.eval (.tmp 33) = (.pointer (some ⟨g, 0, none⟩)) := hk_.got 4 33 _ (by kernel_rfl) rfl rfl
      have hx_ := hk_.ext
      clear hk_
      refine flow_plain rfl ?_
      unfold gives
      have hc_ : ∀ v, a_.eval (.const v) = v := fun _ => rfl
      have hn_ : ∀ f, a_.eval (.func f) = .func (.func f) #[] #[] := fun _ => rfl
      generalize a_.eval = ρ_ at *
      go_simp
      exact ⟨Below.refl _ _, rfl⟩
    refine allFrom_cons (stepQ_yes (by kernel_rfl) ?_) ?_
    · intro a_ w_ hk_
      have h0 : a_.eval (.tmp 0) = .pointer (some ⟨gl, 0, none⟩) := hk_.old 0 (by kernel_rfl)
      have hx_ := hk_.ext
      clear hk_
      refine flow_plain rfl ?_
      exact gives_move rfl ⟨Below.refl _ _, h0⟩
    refine allFrom_cons (stepQ_yes (by kernel_rfl) ?_) ?_
    · intro a_ w_ hk_
      have h0 : a_.eval (.tmp 0) = .pointer (some ⟨gl, 0, none⟩) := hk_.old 0 (by kernel_rfl)
      have hx_ := hk_.ext
      clear hk_
      refine flow_plain rfl ?_
      exact gives_move rfl ⟨Below.refl _ _, h0⟩
    refine allFrom_cons (stepQ_yes (by kernel_rfl) ?_) ?_
    · intro a_ w_ hk_
      have h36 : a_.eval (.tmp 36) = (.pointer (some ⟨gl, 0, none⟩)) := hk_.got 7 36 _ (by kernel_rfl) rfl rfl
      have hx_ := hk_.ext
      clear hk_
      refine flow_plain rfl ?_
      unfold gives
      have hc_ : ∀ v, a_.eval (.const v) = v := fun _ => rfl
      have hn_ : ∀ f, a_.eval (.func f) = .func (.func f) #[] #[] := fun _ => rfl
      generalize a_.eval = ρ_ at *
      go_simp
      exact ⟨Below.refl _ _, rfl⟩
    refine allFrom_cons (stepQ_yes (by kernel_rfl) ?_) ?_
    · intro a_ w_ hk_
      have h37 : a_.eval (.tmp 37) = (.pointer (some ⟨gl, 0, none⟩)) := hk_.got 8 37 _ (by kernel_rfl) rfl rfl
      have hx_ := hk_.ext
      clear hk_
      refine flow_plain rfl ?_
      unfold gives
      have hc_ : ∀ v, a_.eval (.const v) = v := fun _ => rfl
      have hn_ : ∀ f, a_.eval (.func f) = .func (.func f) #[] #[] := fun _ => rfl
      generalize a_.eval = ρ_ at *
      go_simp
      exact ⟨Below.refl _ _, rfl⟩
    refine allFrom_cons (stepQ_yes (by kernel_rfl) ?_) ?_
    · intro a_ w_ hk_
      have h38 : a_.eval (.tmp 38) = (.pointer (some ⟨gl, 3, none⟩)) := hk_.got 9 38 _ (by kernel_rfl) rfl rfl
      have hx_ := hk_.ext
      clear hk_
      refine flow_plain rfl ?_
      unfold gives
      have hc_ : ∀ v, a_.eval (.const v) = v := fun _ => rfl
      have hn_ : ∀ f, a_.eval (.func f) = .func (.func f) #[] #[] := fun _ => rfl
      have hcell := (hx_.cell (p := ⟨gl, 3, none⟩) lx).trans c3x
      generalize a_.eval = ρ_ at *
      go_simp
      exact ⟨Below.refl _ _, rfl⟩
    refine allFrom_cons (stepQ_yes (by kernel_rfl) ?_) ?_
    · intro a_ w_ hk_
      have h0 : a_.eval (.tmp 0) = .pointer (some ⟨gl, 0, none⟩) := hk_.old 0 (by kernel_rfl)
      have hx_ := hk_.ext
      clear hk_
      refine flow_plain rfl ?_
      exact gives_move rfl ⟨Below.refl _ _, h0⟩
    refine allFrom_cons (stepQ_yes (by kernel_rfl) ?_) ?_
    · intro a_ w_ hk_
      have h40 : a_.eval (.tmp 40) = (.pointer (some ⟨gl, 0, none⟩)) := hk_.got 11 40 _ (by kernel_rfl) rfl rfl
      have hx_ := hk_.ext
      clear hk_
      refine flow_plain rfl ?_
      unfold gives
      have hc_ : ∀ v, a_.eval (.const v) = v := fun _ => rfl
      have hn_ : ∀ f, a_.eval (.func f) = .func (.func f) #[] #[] := fun _ => rfl
      generalize a_.eval = ρ_ at *
      go_simp
      exact ⟨Below.refl _ _, rfl⟩
    refine allFrom_cons (stepQ_yes (by kernel_rfl) ?_) ?_
    · intro a_ w_ hk_
      have h41 : a_.eval (.tmp 41) = (.pointer (some ⟨gl, 0, none⟩)) := hk_.got 12 41 _ (by kernel_rfl) rfl rfl
      have hx_ := hk_.ext
      clear hk_
      refine flow_plain rfl ?_
      unfold gives
      have hc_ : ∀ v, a_.eval (.const v) = v := fun _ => rfl
      have hn_ : ∀ f, a_.eval (.func f) = .func (.func f) #[] #[] := fun _ => rfl
      generalize a_.eval = ρ_ at *
      go_simp
      exact ⟨Below.refl _ _, rfl⟩
    refine allFrom_cons (stepQ_yes (by kernel_rfl) ?_) ?_
    · intro a_ w_ hk_
      have h42 : a_.eval (.tmp 42) = (.pointer (some ⟨gl, 4, none⟩)) := hk_.got 13 42 _ (by kernel_rfl) rfl rfl
      have hx_ := hk_.ext
      clear hk_
      refine flow_plain rfl ?_
      unfold gives
      have hc_ : ∀ v, a_.eval (.const v) = v := fun _ => rfl
      have hn_ : ∀ f, a_.eval (.func f) = .func (.func f) #[] #[] := fun _ => rfl
      have hcell := (hx_.cell (p := ⟨gl, 4, none⟩) lx).trans c4x
      generalize a_.eval = ρ_ at *
      go_simp
      exact ⟨Below.refl _ _, rfl⟩
    refine allFrom_cons (stepQ_yes (by kernel_rfl) ?_) ?_
    · intro a_ w_ hk_
      have h43 : a_.eval (.tmp 43) = (.slice Ab L.b.length cb0) := hk_.got 14 43 _ (by kernel_rfl) rfl rfl
      have hx_ := hk_.ext
      clear hk_
      refine flow_plain rfl ?_
      unfold gives
      have hc_ : ∀ v, a_.eval (.const v) = v := fun _ => rfl
      have hn_ : ∀ f, a_.eval (.func f) = .func (.func f) #[] #[] := fun _ => rfl
      generalize a_.eval = ρ_ at *
      go_simp
      exact ⟨Below.refl _ _, rfl⟩
    refine allFrom_cons (stepQ_yes (by kernel_rfl) ?_) ?_
    · intro a_ w_ hk_
      have h35 : a_.eval (.tmp 35) = (.pointer (some ⟨gl, 0, none⟩)) := hk_.got 6 35 _ (by kernel_rfl) rfl rfl
      have h39 : a_.eval (.tmp 39) = (.int .i64 (L.area : Int)) := hk_.got 10 39 _ (by kernel_rfl) rfl rfl
      have h44 : a_.eval (.tmp 44) = (.int .i64 (L.b.length : Int)) := hk_.got 15 44 _ (by kernel_rfl) rfl rfl
      have hx_ := hk_.ext
      clear hk_
      refine flow_plain rfl ?_
      unfold gives
      have hc_ : ∀ v, a_.eval (.const v) = v := fun _ => rfl
      have hn_ : ∀ f, a_.eval (.func f) = .func (.func f) #[] #[] := fun _ => rfl
      generalize a_.eval = ρ_ at *
      go_simp
      refine (mark_any w_).mono ?_
      rintro e w' ⟨p0, p1, p2, h1, h2, h3, h4, h5⟩
      exact ⟨_, h1, h5, p0, p1, p2, rfl, h2, h3, h4⟩
    refine allFrom_cons (stepQ_yes (by kernel_rfl) ?_) ?_
    · intro a_ w_ hk_
      have h0 : a_.eval (.tmp 0) = .pointer (some ⟨gl, 0, none⟩) := hk_.old 0 (by kernel_rfl)
      have hx_ := hk_.ext
      clear hk_
      refine flow_plain rfl ?_
      exact gives_move rfl ⟨Below.refl _ _, h0⟩
    refine allFrom_cons (stepQ_yes (by kernel_rfl) ?_) ?_
    · intro a_ w_ hk_
      have h46 : a_.eval (.tmp 46) = (.pointer (some ⟨gl, 0, none⟩)) := hk_.got 17 46 _ (by kernel_rfl) rfl rfl
      have hx_ := hk_.ext
      clear hk_
      refine flow_plain rfl ?_
      unfold gives
      have hc_ : ∀ v, a_.eval (.const v) = v := fun _ => rfl
      have hn_ : ∀ f, a_.eval (.func f) = .func (.func f) #[] #[] := fun _ => rfl
      generalize a_.eval = ρ_ at *
      go_simp
      exact ⟨Below.refl _ _, rfl⟩
    refine allFrom_cons (stepQ_yes (by kernel_rfl) ?_) ?_
    · intro a_ w_ hk_
      have h47 : a_.eval (.tmp 47) = (.pointer (some ⟨gl, 0, none⟩)) := hk_.got 18 47 _ (by kernel_rfl) rfl rfl
      have hx_ := hk_.ext
      clear hk_
      refine flow_plain rfl ?_
      unfold gives
      have hc_ : ∀ v, a_.eval (.const v) = v := fun _ => rfl
      have hn_ : ∀ f, a_.eval (.func f) = .func (.func f) #[] #[] := fun _ => rfl
      generalize a_.eval = ρ_ at *
      go_simp
      exact ⟨Below.refl _ _, rfl⟩
    refine allFrom_cons (stepQ_yes (by kernel_rfl) ?_) ?_
    · intro a_ w_ hk_
      have h48 : a_.eval (.tmp 48) = (.pointer (some ⟨gl, 0, none⟩)) := hk_.got 19 48 _ (by kernel_rfl) rfl rfl
      have hx_ := hk_.ext
      clear hk_
      refine flow_plain rfl ?_
      unfold gives
      have hc_ : ∀ v, a_.eval (.const v) = v := fun _ => rfl
      have hn_ : ∀ f, a_.eval (.func f) = .func (.func f) #[] #[] := fun _ => rfl
      have hcell := (hx_.cell (p := ⟨gl, 0, none⟩) lx).trans c0x
      generalize a_.eval = ρ_ at *
      go_simp
      exact ⟨Below.refl _ _, rfl⟩
    refine allFrom_cons (stepQ_yes (by kernel_rfl) ?_) ?_
    · intro a_ w_ hk_
      have h49 : a_.eval (.tmp 49) = (.pointer (some ⟨g, 0, none⟩)) := hk_.got 20 49 _ (by kernel_rfl) rfl rfl
      have hx_ := hk_.ext
      clear hk_
      refine flow_plain rfl ?_
      unfold gives
      have hc_ : ∀ v, a_.eval (.const v) = v := fun _ => rfl
      have hn_ : ∀ f, a_.eval (.func f) = .func (.func f) #[] #[] := fun _ => rfl
      generalize a_.eval = ρ_ at *
      go_simp
      exact ⟨Below.refl _ _, rfl⟩
    refine allFrom_cons (stepQ_yes (by kernel_rfl) ?_) ?_
    · intro a_ w_ hk_
      have h34 : a_.eval (.tmp 34) = (.func (.func 35) #[.pointer (some ⟨g, 0, none⟩)] #[]) := hk_.got 5 34 _ (by kernel_rfl) rfl rfl
      have h45 : (FP.markF gl L.area L.b.length).p (a_.eval (.tmp 45)) w_ := hk_.got 16 45 _ (by kernel_rfl) rfl rfl
      have h50 : a_.eval (.tmp 50) = (.func (.func 35) #[.pointer (some ⟨g, 0, none⟩)] #[]) := hk_.got 21 50 _ (by kernel_rfl) rfl rfl
      have hx_ := hk_.ext
      clear hk_
      refine flow_plain rfl ?_
      unfold gives
      have hc_ : ∀ v, a_.eval (.const v) = v := fun _ => rfl
      have hn_ : ∀ f, a_.eval (.func f) = .func (.func f) #[] #[] := fun _ => rfl
      obtain ⟨p0, p1, p2, e_, q0, q1, q2⟩ := (show MarkF w_ gl L.area L.b.length (a_.eval (.tmp 45)) from h45)
      clear h45
      generalize a_.eval = ρ_ at *
      go_simp
      have hb_ := Blk.new w_ tFn #[.func (.func 35) #[.pointer (some ⟨g, 0, none⟩)] #[], .func (.func 54) #[] #[.pointer (some ⟨p0, 0, none⟩), .pointer (some ⟨p1, 0, none⟩), .pointer (some ⟨p2, 0, none⟩)], .func (.func 35) #[.pointer (some ⟨g, 0, none⟩)] #[]]
      exact ⟨bx_alloc (Below.refl _ _) _, _, _, rfl, hb_, ⟨p0, p1, p2, rfl, q0.alloc _, q1.alloc _, q2.alloc _⟩⟩
    exact allFrom_nil
  · intro a_ w_ hk_
    have h29 : a_.eval (.tmp 29) = (.pointer (some ⟨gl, 0, none⟩)) := hk_.got 0 29 _ (by kernel_rfl) rfl rfl
    have h51 : (FP.syn3 g gl L.area L.b.length).p (a_.eval (.tmp 51)) w_ := hk_.got 22 51 _ (by kernel_rfl) rfl rfl
    have hx_ := hk_.ext
    clear hk_
    obtain ⟨gr, fm, e52, hbr, hmf⟩ := h51
    have hgo := HA.out w_ (bx_trans HX.out hx_) gr fm hbr hmf
    clear hmf hbr
    unfold gives
    have hc_ : ∀ v, a_.eval (.const v) = v := fun _ => rfl
    have hn_ : ∀ f, a_.eval (.func f) = .func (.func f) #[] #[] := fun _ => rfl
    generalize a_.eval = ρ_ at *
    go_simp
    exact hgo.mono fun e w' ⟨h1, h2, h3⟩ => ⟨_, h1, rfl, h2, (XFr.of_below hx_ hBx).trans h3⟩
  intro f_ w_ hf_ ht_
  have h29 : f_ 29 = (.pointer (some ⟨gl, 0, none⟩)) := (hf_ 0 29 _ (by decide) rfl rfl).elim fun _ h => h
  have h30 : f_ 30 = (.pointer (some ⟨gl, 0, none⟩)) := (hf_ 1 30 _ (by decide) rfl rfl).elim fun _ h => h
  have h31 : f_ 31 = (.pointer (some ⟨gl, 0, none⟩)) := (hf_ 2 31 _ (by decide) rfl rfl).elim fun _ h => h
  have h32 : f_ 32 = (.pointer (some ⟨gl, 0, none⟩)) := (hf_ 3 32 _ (by decide) rfl rfl).elim fun _ h => h
  have h33 : f_ 33 = (.pointer (some ⟨g, 0, none⟩)) := (hf_ 4 33 _ (by decide) rfl rfl).elim fun _ h => h
  have h34 : f_ 34 = (.func (.func 35) #[.pointer (some ⟨g, 0, none⟩)] #[]) := (hf_ 5 34 _ (by decide) rfl rfl).elim fun _ h => h
  have h35 : f_ 35 = (.pointer (some ⟨gl, 0, none⟩)) := (hf_ 6 35 _ (by decide) rfl rfl).elim fun _ h => h
  have h36 : f_ 36 = (.pointer (some ⟨gl, 0, none⟩)) := (hf_ 7 36 _ (by decide) rfl rfl).elim fun _ h => h
  have h37 : f_ 37 = (.pointer (some ⟨gl, 0, none⟩)) := (hf_ 8 37 _ (by decide) rfl rfl).elim fun _ h => h
  have h38 : f_ 38 = (.pointer (some ⟨gl, 3, none⟩)) := (hf_ 9 38 _ (by decide) rfl rfl).elim fun _ h => h
  have h39 : f_ 39 = (.int .i64 (L.area : Int)) := (hf_ 10 39 _ (by decide) rfl rfl).elim fun _ h => h
  have h40 : f_ 40 = (.pointer (some ⟨gl, 0, none⟩)) := (hf_ 11 40 _ (by decide) rfl rfl).elim fun _ h => h
  have h41 : f_ 41 = (.pointer (some ⟨gl, 0, none⟩)) := (hf_ 12 41 _ (by decide) rfl rfl).elim fun _ h => h
  have h42 : f_ 42 = (.pointer (some ⟨gl, 4, none⟩)) := (hf_ 13 42 _ (by decide) rfl rfl).elim fun _ h => h
  have h43 : f_ 43 = (.slice Ab L.b.length cb0) := (hf_ 14 43 _ (by decide) rfl rfl).elim fun _ h => h
  have h44 : f_ 44 = (.int .i64 (L.b.length : Int)) := (hf_ 15 44 _ (by decide) rfl rfl).elim fun _ h => h
  have h46 : f_ 46 = (.pointer (some ⟨gl, 0, none⟩)) := (hf_ 17 46 _ (by decide) rfl rfl).elim fun _ h => h
  have h47 : f_ 47 = (.pointer (some ⟨gl, 0, none⟩)) := (hf_ 18 47 _ (by decide) rfl rfl).elim fun _ h => h
  have h48 : f_ 48 = (.pointer (some ⟨gl, 0, none⟩)) := (hf_ 19 48 _ (by decide) rfl rfl).elim fun _ h => h
  have h49 : f_ 49 = (.pointer (some ⟨g, 0, none⟩)) := (hf_ 20 49 _ (by decide) rfl rfl).elim fun _ h => h
  have h50 : f_ 50 = (.func (.func 35) #[.pointer (some ⟨g, 0, none⟩)] #[]) := (hf_ 21 50 _ (by decide) rfl rfl).elim fun _ h => h
  have ht := ht_ 52 _ rfl rfl
  clear ht_
  simp only [mix, List.drop_succ_cons, List.drop_zero, h29, h30, h31, h32, h33, h34, h35, h36, h37, h38, h39, h40, h41, h42, h43, h44, h46, h47, h48, h49, h50]
  clear h29 h30 h31 h32 h33 h34 h35 h36 h37 h38 h39 h40 h41 h42 h43 h44 h46 h47 h48 h49 h50
  clear hf_
  obtain ⟨h52, hlg5, hx5⟩ := ht
  rw [h52]
  clear h52
  have hx05 := (XFr.of_below HX.out hB).trans hx5
  obtain ⟨E, D'⟩ := R
  by_cases hE0 : E = 0
  · subst hE0
    have hL0 : ({ L with e := 0 } : LS) = L := by rw [← HE.out]
    replace hlg5 : IsLog w_ B gl g D' L (.slice Ab L.b.length cb0) (.slice Ar L.rows.length cr) vs := by
      rw [← hL0]
      exact hlg5
    have hblk5 := hlg5.blk
    have c25 : w_.cell? ⟨gl, 2, none⟩ = some (.int .u64 (L.turn : Int)) := hblk5.cell 2
    obtain ⟨ti, hti⟩ : ∃ ti : Int, ti = (L.turn : Int) := ⟨_, rfl⟩
    rw [← hti] at c25
    have hti2 : ti + 1 < 18446744073709551616 := by have := HT.out; omega
    have hti0 : 0 ≤ ti := by omega
    have HTI := hid hti
    have HLG := hid hlg5
    clear hL0 hlg5 hti
    go_wp2_with (first
      | ((with_reducible refine wpAtC ?_); refine wpList_store1 rfl 59 _ _ rfl gl 2 rfl _ rfl sz59 rfl hblk5 (show 2 < 8 by omega) ?_; intro w6 hp6; have c56 : w6.cell? ⟨gl, 5, none⟩ = some (.slice Ar L.rows.length cr) := hp6.blk.cell 5; simp only [Act.put])
      | ((with_reducible refine wpAtC ?_); refine wpList_store1 rfl 3 _ _ rfl gl 6 rfl _ rfl sz3 rfl hp6.blk (show 6 < 8 by omega) ?_; intro w7 hp7; simp only [Act.put]))
    refine bodyPost_ret (results_tmp rfl _ _ _) rfl ?_
    rw [HSY.out, if_neg (fun hh => hh rfl)]
    have hlg := HLG.out
    have e7 := hp7.blk
    have htt : ti + 1 = ((L.turn + 1 : Nat) : Int) := by rw [HTI.out]; push_cast; rfl
    rw [htt] at e7
    have hx57 : XFr [tLog] B w_ w7 := (XFr.of_put hblk5 hp6 hlg.gB (by simp)).trans (XFr.of_put hp6.blk hp7 hlg.gB (by simp))
    exact ⟨rfl, ⟨.slice Ab L.b.length cb0, .slice Ar L.rows.length cr, vs, (hlg.disk.put_int hblk5 hp6 (by decide) (by decide)).put_int hp6.blk hp7 (by decide) (by decide), e7, hlg.by_.xfr hx57 (by decide), hlg.rows.xfr hx57 (by decide) (by decide), hlg.gB, hlg.size, HT.out, hlg.area, hlg.len, Nat.le_refl _, hlg.many, hlg.short⟩, hx05.trans (hx57.wide (by simp))⟩
  · have e1 : (E == 0) = false := by simpa using hE0
    have e2 : (E != 0) = true := by simpa using hE0
    have HE0 := hid hE0
    clear hE0
    go_wp2_with fail
    refine bodyPost_ret (results_tmp rfl _ _ _) rfl ?_
    rw [HSY.out, if_pos HE0.out]
    exact ⟨rfl, ⟨_, _, _, hlg5⟩, hx05⟩
set_option maxRecDepth 100000 in
set_option maxHeartbeats 2000000 in
theorem LSync_any (w : World) {B gl g : Nat} {D : DS} {L : LS} (h : ALog w B gl g D L) (hB : B ≤ w.heap.size) (hs : L.size ≤ 1000) (hroom : D.loose.length < 1000000) (ht : L.turn + 1 < 18446744073709551616) :
    Calls Try.prog 14 #[.pointer (some ⟨gl, 0, none⟩)] w fun e w' => e = .returned (.int .i64 (synS D L).1) ∧ ALog w' B gl g (synS D L).2.1 (synS D L).2.2 ∧ XFr exL B w w' := by
  obtain ⟨vb, vr, vs, h⟩ := h
  by_cases he : L.e = 0
  · by_cases hsu : L.sure = L.rows.length
    · obtain ⟨Ar, cr, rfl, hcr, hmr, _⟩ := own_form h.rows.own
      have hsyn : synS D L = (0, D, L) := by unfold synS; rw [if_pos (.inr hsu), he]
      have lgl := h.blk.lt
      have c5 : w.cell? ⟨gl, 5, none⟩ = some (.slice Ar L.rows.length cr) := h.blk.cell 5
      have c6 : w.cell? ⟨gl, 6, none⟩ = some (.int .i64 (L.sure : Int)) := h.blk.cell 6
      have c7 : w.cell? ⟨gl, 7, none⟩ = some (.int .i64 0) := by rw [h.blk.cell 7, he.symm]; rfl
      have HL := hid h
      rw [hsyn]
      rw [← hsu] at c5
      clear hsyn h he hsu
      go_enter Try.func14, Try.ntmps14
      go_wp2_with fail
      refine wp_flow (by kernel_rfl) [0, 1, 3, 7, 15, 31, 63, 127, 255, 511, 63, 1087, 3135, 7231, 15423, 32767, 65535, 131071] 18 [false, false, false, false, false, false, false, true, true, true, true, true, true, true, true, true, true, true, true, true, true, true, true, true, true] (by kernel_rfl) (by decide) (by kernel_rfl) [FP.eq (.pointer (some ⟨gl, 0, none⟩)), FP.eq (.pointer (some ⟨gl, 0, none⟩)), FP.eq (.pointer (some ⟨gl, 7, none⟩)), FP.eq (.int .i64 0), FP.eq (.bool false), FP.eq (.bool false), FP.eq (.pointer (some ⟨gl, 0, none⟩)), FP.eq (.pointer (some ⟨gl, 0, none⟩)), FP.eq (.pointer (some ⟨gl, 6, none⟩)), FP.eq (.int .i64 (L.sure : Int)), FP.eq (.pointer (some ⟨gl, 0, none⟩)), FP.eq (.pointer (some ⟨gl, 0, none⟩)), FP.eq (.pointer (some ⟨gl, 5, none⟩)), FP.eq (.slice Ar L.sure cr), FP.eq (.int .i64 (L.sure : Int)), FP.eq (.bool true), FP.eq (.bool true), FP.eq (.bool true)] ?_ ?_
      · refine allFrom_cons ?_ ?_
        · intro a_ w_ hk_
          have h0 : a_.eval (.tmp 0) = .pointer (some ⟨gl, 0, none⟩) := hk_.old 0 (by kernel_rfl)
          have hx_ := hk_.ext
          clear hk_
          refine flow_plain rfl ?_
          exact gives_move rfl ⟨Below.refl _ _, h0⟩
        refine allFrom_cons ?_ ?_
        · intro a_ w_ hk_
          have h8 : a_.eval (.tmp 8) = (.pointer (some ⟨gl, 0, none⟩)) := hk_.got 0 8 _ (by kernel_rfl) rfl rfl
          have hx_ := hk_.ext
          clear hk_
          refine flow_plain rfl ?_
          unfold gives
          have hc_ : ∀ v, a_.eval (.const v) = v := fun _ => rfl
          have hn_ : ∀ f, a_.eval (.func f) = .func (.func f) #[] #[] := fun _ => rfl
          generalize a_.eval = ρ_ at *
          go_simp
          exact ⟨Below.refl _ _, rfl⟩
        refine allFrom_cons ?_ ?_
        · intro a_ w_ hk_
          have h9 : a_.eval (.tmp 9) = (.pointer (some ⟨gl, 0, none⟩)) := hk_.got 1 9 _ (by kernel_rfl) rfl rfl
          have hx_ := hk_.ext
          clear hk_
          refine flow_plain rfl ?_
          unfold gives
          have hc_ : ∀ v, a_.eval (.const v) = v := fun _ => rfl
          have hn_ : ∀ f, a_.eval (.func f) = .func (.func f) #[] #[] := fun _ => rfl
          generalize a_.eval = ρ_ at *
          go_simp
          exact ⟨Below.refl _ _, rfl⟩
        refine allFrom_cons ?_ ?_
        · intro a_ w_ hk_
          have h10 : a_.eval (.tmp 10) = (.pointer (some ⟨gl, 7, none⟩)) := hk_.got 2 10 _ (by kernel_rfl) rfl rfl
          have hx_ := hk_.ext
          clear hk_
          refine flow_plain rfl ?_
          unfold gives
          have hc_ : ∀ v, a_.eval (.const v) = v := fun _ => rfl
          have hn_ : ∀ f, a_.eval (.func f) = .func (.func f) #[] #[] := fun _ => rfl
          have hcell := (hx_.cell (p := ⟨gl, 7, none⟩) lgl).trans c7
          generalize a_.eval = ρ_ at *
          go_simp
          exact ⟨Below.refl _ _, rfl⟩
        refine allFrom_cons ?_ ?_
        · intro a_ w_ hk_
          have h11 : a_.eval (.tmp 11) = (.int .i64 0) := hk_.got 3 11 _ (by kernel_rfl) rfl rfl
          have hx_ := hk_.ext
          clear hk_
          refine flow_plain rfl ?_
          unfold gives
          have hc_ : ∀ v, a_.eval (.const v) = v := fun _ => rfl
          have hn_ : ∀ f, a_.eval (.func f) = .func (.func f) #[] #[] := fun _ => rfl
          generalize a_.eval = ρ_ at *
          go_simp
          exact ⟨Below.refl _ _, rfl⟩
        refine allFrom_cons ?_ ?_
        · intro a_ w_ hk_
          have h12 : a_.eval (.tmp 12) = (.bool false) := hk_.got 4 12 _ (by kernel_rfl) rfl rfl
          have hx_ := hk_.ext
          clear hk_
          refine flow_plain rfl ?_
          exact gives_move rfl ⟨Below.refl _ _, h12⟩
        refine allFrom_cons ?_ ?_
        · intro a_ w_ hk_
          have h0 : a_.eval (.tmp 0) = .pointer (some ⟨gl, 0, none⟩) := hk_.old 0 (by kernel_rfl)
          have hg_ : a_.eval (.tmp 13) = .bool false := hk_.got 5 13 _ (by kernel_rfl) rfl rfl
          have hy_ := hk_.want 5 _ 13 false rfl rfl hg_
          have hx_ := hk_.ext
          clear hk_
          refine flow_want rfl hy_ ?_
          exact gives_move rfl ⟨Below.refl _ _, h0⟩
        refine allFrom_cons ?_ ?_
        · intro a_ w_ hk_
          have h14 : a_.eval (.tmp 14) = (.pointer (some ⟨gl, 0, none⟩)) := hk_.got 6 14 _ (by kernel_rfl) rfl rfl
          have hg_ : a_.eval (.tmp 13) = .bool false := hk_.got 5 13 _ (by kernel_rfl) rfl rfl
          have hy_ := hk_.want 5 _ 13 false rfl rfl hg_
          have hx_ := hk_.ext
          clear hk_
          refine flow_want rfl hy_ ?_
          unfold gives
          have hc_ : ∀ v, a_.eval (.const v) = v := fun _ => rfl
          have hn_ : ∀ f, a_.eval (.func f) = .func (.func f) #[] #[] := fun _ => rfl
          clear hy_ hg_
          generalize a_.eval = ρ_ at *
          go_simp
          exact ⟨Below.refl _ _, rfl⟩
        refine allFrom_cons ?_ ?_
        · intro a_ w_ hk_
          have h15 : a_.eval (.tmp 15) = (.pointer (some ⟨gl, 0, none⟩)) := hk_.got 7 15 _ (by kernel_rfl) rfl rfl
          have hg_ : a_.eval (.tmp 13) = .bool false := hk_.got 5 13 _ (by kernel_rfl) rfl rfl
          have hy_ := hk_.want 5 _ 13 false rfl rfl hg_
          have hx_ := hk_.ext
          clear hk_
          refine flow_want rfl hy_ ?_
          unfold gives
          have hc_ : ∀ v, a_.eval (.const v) = v := fun _ => rfl
          have hn_ : ∀ f, a_.eval (.func f) = .func (.func f) #[] #[] := fun _ => rfl
          clear hy_ hg_
          generalize a_.eval = ρ_ at *
          go_simp
          exact ⟨Below.refl _ _, rfl⟩
        refine allFrom_cons ?_ ?_
        · intro a_ w_ hk_
          have h16 : a_.eval (.tmp 16) = (.pointer (some ⟨gl, 6, none⟩)) := hk_.got 8 16 _ (by kernel_rfl) rfl rfl
          have hg_ : a_.eval (.tmp 13) = .bool false := hk_.got 5 13 _ (by kernel_rfl) rfl rfl
          have hy_ := hk_.want 5 _ 13 false rfl rfl hg_
          have hx_ := hk_.ext
          clear hk_
          refine flow_want rfl hy_ ?_
          unfold gives
          have hc_ : ∀ v, a_.eval (.const v) = v := fun _ => rfl
          have hn_ : ∀ f, a_.eval (.func f) = .func (.func f) #[] #[] := fun _ => rfl
          clear hy_ hg_
          have hcell := (hx_.cell (p := ⟨gl, 6, none⟩) lgl).trans c6
          generalize a_.eval = ρ_ at *
          go_simp
          exact ⟨Below.refl _ _, rfl⟩
        refine allFrom_cons ?_ ?_
        · intro a_ w_ hk_
          have h0 : a_.eval (.tmp 0) = .pointer (some ⟨gl, 0, none⟩) := hk_.old 0 (by kernel_rfl)
          have hg_ : a_.eval (.tmp 13) = .bool false := hk_.got 5 13 _ (by kernel_rfl) rfl rfl
          have hy_ := hk_.want 5 _ 13 false rfl rfl hg_
          have hx_ := hk_.ext
          clear hk_
          refine flow_want rfl hy_ ?_
          exact gives_move rfl ⟨Below.refl _ _, h0⟩
        refine allFrom_cons ?_ ?_
        · intro a_ w_ hk_
          have h18 : a_.eval (.tmp 18) = (.pointer (some ⟨gl, 0, none⟩)) := hk_.got 10 18 _ (by kernel_rfl) rfl rfl
          have hg_ : a_.eval (.tmp 13) = .bool false := hk_.got 5 13 _ (by kernel_rfl) rfl rfl
          have hy_ := hk_.want 5 _ 13 false rfl rfl hg_
          have hx_ := hk_.ext
          clear hk_
          refine flow_want rfl hy_ ?_
          unfold gives
          have hc_ : ∀ v, a_.eval (.const v) = v := fun _ => rfl
          have hn_ : ∀ f, a_.eval (.func f) = .func (.func f) #[] #[] := fun _ => rfl
          clear hy_ hg_
          generalize a_.eval = ρ_ at *
          go_simp
          exact ⟨Below.refl _ _, rfl⟩
        refine allFrom_cons ?_ ?_
        · intro a_ w_ hk_
          have h19 : a_.eval (.tmp 19) = (.pointer (some ⟨gl, 0, none⟩)) := hk_.got 11 19 _ (by kernel_rfl) rfl rfl
          have hg_ : a_.eval (.tmp 13) = .bool false := hk_.got 5 13 _ (by kernel_rfl) rfl rfl
          have hy_ := hk_.want 5 _ 13 false rfl rfl hg_
          have hx_ := hk_.ext
          clear hk_
          refine flow_want rfl hy_ ?_
          unfold gives
          have hc_ : ∀ v, a_.eval (.const v) = v := fun _ => rfl
          have hn_ : ∀ f, a_.eval (.func f) = .func (.func f) #[] #[] := fun _ => rfl
          clear hy_ hg_
          generalize a_.eval = ρ_ at *
          go_simp
          exact ⟨Below.refl _ _, rfl⟩
        refine allFrom_cons ?_ ?_
        · intro a_ w_ hk_
          have h20 : a_.eval (.tmp 20) = (.pointer (some ⟨gl, 5, none⟩)) := hk_.got 12 20 _ (by kernel_rfl) rfl rfl
          have hg_ : a_.eval (.tmp 13) = .bool false := hk_.got 5 13 _ (by kernel_rfl) rfl rfl
          have hy_ := hk_.want 5 _ 13 false rfl rfl hg_
          have hx_ := hk_.ext
          clear hk_
          refine flow_want rfl hy_ ?_
          unfold gives
          have hc_ : ∀ v, a_.eval (.const v) = v := fun _ => rfl
          have hn_ : ∀ f, a_.eval (.func f) = .func (.func f) #[] #[] := fun _ => rfl
          clear hy_ hg_
          have hcell := (hx_.cell (p := ⟨gl, 5, none⟩) lgl).trans c5
          generalize a_.eval = ρ_ at *
          go_simp
          exact ⟨Below.refl _ _, rfl⟩
        refine allFrom_cons ?_ ?_
        · intro a_ w_ hk_
          have h21 : a_.eval (.tmp 21) = (.slice Ar L.sure cr) := hk_.got 13 21 _ (by kernel_rfl) rfl rfl
          have hg_ : a_.eval (.tmp 13) = .bool false := hk_.got 5 13 _ (by kernel_rfl) rfl rfl
          have hy_ := hk_.want 5 _ 13 false rfl rfl hg_
          have hx_ := hk_.ext
          clear hk_
          refine flow_want rfl hy_ ?_
          unfold gives
          have hc_ : ∀ v, a_.eval (.const v) = v := fun _ => rfl
          have hn_ : ∀ f, a_.eval (.func f) = .func (.func f) #[] #[] := fun _ => rfl
          clear hy_ hg_
          generalize a_.eval = ρ_ at *
          go_simp
          exact ⟨Below.refl _ _, rfl⟩
        refine allFrom_cons ?_ ?_
        · intro a_ w_ hk_
          have h17 : a_.eval (.tmp 17) = (.int .i64 (L.sure : Int)) := hk_.got 9 17 _ (by kernel_rfl) rfl rfl
          have h22 : a_.eval (.tmp 22) = (.int .i64 (L.sure : Int)) := hk_.got 14 22 _ (by kernel_rfl) rfl rfl
          have hg_ : a_.eval (.tmp 13) = .bool false := hk_.got 5 13 _ (by kernel_rfl) rfl rfl
          have hy_ := hk_.want 5 _ 13 false rfl rfl hg_
          have hx_ := hk_.ext
          clear hk_
          refine flow_want rfl hy_ ?_
          unfold gives
          have hc_ : ∀ v, a_.eval (.const v) = v := fun _ => rfl
          have hn_ : ∀ f, a_.eval (.func f) = .func (.func f) #[] #[] := fun _ => rfl
          clear hy_ hg_
          generalize a_.eval = ρ_ at *
          go_simp
          exact ⟨Below.refl _ _, rfl⟩
        refine allFrom_cons ?_ ?_
        · intro a_ w_ hk_
          have h13 : a_.eval (.tmp 13) = (.bool false) := hk_.got 5 13 _ (by kernel_rfl) rfl rfl
          have h23 : a_.eval (.tmp 23) = (.bool true) := hk_.got 15 23 _ (by kernel_rfl) rfl rfl
          have hx_ := hk_.ext
          clear hk_
          refine flow_plain rfl ?_
          exact gives_pick rfl h13 ⟨Below.refl _ _, h23⟩
        refine allFrom_cons ?_ ?_
        · intro a_ w_ hk_
          have h24 : a_.eval (.tmp 24) = (.bool true) := hk_.got 16 24 _ (by kernel_rfl) rfl rfl
          have hx_ := hk_.ext
          clear hk_
          refine flow_plain rfl ?_
          exact gives_assign rfl ⟨Below.refl _ _, h24⟩
        exact allFrom_nil
      intro f_ w_ hx_ hf_
      have h8 : f_ 8 = (.pointer (some ⟨gl, 0, none⟩)) := hf_ 0 8 _ (by decide) rfl rfl
      have h9 : f_ 9 = (.pointer (some ⟨gl, 0, none⟩)) := hf_ 1 9 _ (by decide) rfl rfl
      have h10 : f_ 10 = (.pointer (some ⟨gl, 7, none⟩)) := hf_ 2 10 _ (by decide) rfl rfl
      have h11 : f_ 11 = (.int .i64 0) := hf_ 3 11 _ (by decide) rfl rfl
      have h12 : f_ 12 = (.bool false) := hf_ 4 12 _ (by decide) rfl rfl
      have h13 : f_ 13 = (.bool false) := hf_ 5 13 _ (by decide) rfl rfl
      have h14 : f_ 14 = (.pointer (some ⟨gl, 0, none⟩)) := hf_ 6 14 _ (by decide) rfl rfl
      have h15 : f_ 15 = (.pointer (some ⟨gl, 0, none⟩)) := hf_ 7 15 _ (by decide) rfl rfl
      have h16 : f_ 16 = (.pointer (some ⟨gl, 6, none⟩)) := hf_ 8 16 _ (by decide) rfl rfl
      have h17 : f_ 17 = (.int .i64 (L.sure : Int)) := hf_ 9 17 _ (by decide) rfl rfl
      have h18 : f_ 18 = (.pointer (some ⟨gl, 0, none⟩)) := hf_ 10 18 _ (by decide) rfl rfl
      have h19 : f_ 19 = (.pointer (some ⟨gl, 0, none⟩)) := hf_ 11 19 _ (by decide) rfl rfl
      have h20 : f_ 20 = (.pointer (some ⟨gl, 5, none⟩)) := hf_ 12 20 _ (by decide) rfl rfl
      have h21 : f_ 21 = (.slice Ar L.sure cr) := hf_ 13 21 _ (by decide) rfl rfl
      have h22 : f_ 22 = (.int .i64 (L.sure : Int)) := hf_ 14 22 _ (by decide) rfl rfl
      have h23 : f_ 23 = (.bool true) := hf_ 15 23 _ (by decide) rfl rfl
      have h24 : f_ 24 = (.bool true) := hf_ 16 24 _ (by decide) rfl rfl
      have h7 : f_ 7 = (.bool true) := hf_ 17 7 _ (by decide) rfl rfl
      simp only [mix, List.drop_succ_cons, List.drop_zero, h8, h9, h10, h11, h12, h13, h14, h15, h16, h17, h18, h19, h20, h21, h22, h23, h24, h7]
      clear h8 h9 h10 h11 h12 h13 h14 h15 h16 h17 h18 h19 h20 h21 h22 h23 h24 h7
      clear hf_
      have c7x := (hx_.cell (p := ⟨gl, 7, none⟩) lgl).trans c7
      go_wp2_with fail
      refine bodyPost_ret (results_tmp rfl _ _ _) rfl ?_
      exact ⟨rfl, ⟨_, _, _, HL.out.below hx_ hB⟩, XFr.of_below hx_ hB⟩
    · exact LSync_go w h hB hs hroom ht he hsu
  · have hsyn : synS D L = (L.e, D, L) := by unfold synS; rw [if_pos (.inl he)]
    have lgl := h.blk.lt
    have c7 : w.cell? ⟨gl, 7, none⟩ = some (.int .i64 L.e) := h.blk.cell 7
    have e1 : (L.e == 0) = false := by simpa using he
    have e2 : (L.e != 0) = true := by simpa using he
    have HL := hid h
    rw [hsyn]
    clear hsyn h he
    go_enter Try.func14, Try.ntmps14
    go_wp2_with fail
    refine wp_flow (by kernel_rfl) [0, 1, 3, 7, 15, 31, 63, 127, 255, 511, 63, 1087, 3135, 7231, 15423, 32767, 65535, 131071] 18 [false, false, false, false, false, false, false, true, true, true, true, true, true, true, true, true, true, true, true, true, true, true, true, true, true] (by kernel_rfl) (by decide) (by kernel_rfl) [FP.eq (.pointer (some ⟨gl, 0, none⟩)), FP.eq (.pointer (some ⟨gl, 0, none⟩)), FP.eq (.pointer (some ⟨gl, 7, none⟩)), FP.eq (.int .i64 L.e), FP.eq (.bool true), FP.eq (.bool true), FP.any, FP.any, FP.any, FP.any, FP.any, FP.any, FP.any, FP.any, FP.any, FP.any, FP.eq (.bool true), FP.eq (.bool true)] ?_ ?_
    · refine allFrom_cons ?_ ?_
      · intro a_ w_ hk_
        have h0 : a_.eval (.tmp 0) = .pointer (some ⟨gl, 0, none⟩) := hk_.old 0 (by kernel_rfl)
        have hx_ := hk_.ext
        clear hk_
        refine flow_plain rfl ?_
        exact gives_move rfl ⟨Below.refl _ _, h0⟩
      refine allFrom_cons ?_ ?_
      · intro a_ w_ hk_
        have h8 : a_.eval (.tmp 8) = (.pointer (some ⟨gl, 0, none⟩)) := hk_.got 0 8 _ (by kernel_rfl) rfl rfl
        have hx_ := hk_.ext
        clear hk_
        refine flow_plain rfl ?_
        unfold gives
        have hc_ : ∀ v, a_.eval (.const v) = v := fun _ => rfl
        have hn_ : ∀ f, a_.eval (.func f) = .func (.func f) #[] #[] := fun _ => rfl
        generalize a_.eval = ρ_ at *
        go_simp
        exact ⟨Below.refl _ _, rfl⟩
      refine allFrom_cons ?_ ?_
      · intro a_ w_ hk_
        have h9 : a_.eval (.tmp 9) = (.pointer (some ⟨gl, 0, none⟩)) := hk_.got 1 9 _ (by kernel_rfl) rfl rfl
        have hx_ := hk_.ext
        clear hk_
        refine flow_plain rfl ?_
        unfold gives
        have hc_ : ∀ v, a_.eval (.const v) = v := fun _ => rfl
        have hn_ : ∀ f, a_.eval (.func f) = .func (.func f) #[] #[] := fun _ => rfl
        generalize a_.eval = ρ_ at *
        go_simp
        exact ⟨Below.refl _ _, rfl⟩
      refine allFrom_cons ?_ ?_
      · intro a_ w_ hk_
        have h10 : a_.eval (.tmp 10) = (.pointer (some ⟨gl, 7, none⟩)) := hk_.got 2 10 _ (by kernel_rfl) rfl rfl
        have hx_ := hk_.ext
        clear hk_
        refine flow_plain rfl ?_
        unfold gives
        have hc_ : ∀ v, a_.eval (.const v) = v := fun _ => rfl
        have hn_ : ∀ f, a_.eval (.func f) = .func (.func f) #[] #[] := fun _ => rfl
        have hcell := (hx_.cell (p := ⟨gl, 7, none⟩) lgl).trans c7
        generalize a_.eval = ρ_ at *
        go_simp
        exact ⟨Below.refl _ _, rfl⟩
      refine allFrom_cons ?_ ?_
      · intro a_ w_ hk_
        have h11 : a_.eval (.tmp 11) = (.int .i64 L.e) := hk_.got 3 11 _ (by kernel_rfl) rfl rfl
        have hx_ := hk_.ext
        clear hk_
        refine flow_plain rfl ?_
        unfold gives
        have hc_ : ∀ v, a_.eval (.const v) = v := fun _ => rfl
        have hn_ : ∀ f, a_.eval (.func f) = .func (.func f) #[] #[] := fun _ => rfl
        generalize a_.eval = ρ_ at *
        go_simp
        exact ⟨Below.refl _ _, rfl⟩
      refine allFrom_cons ?_ ?_
      · intro a_ w_ hk_
        have h12 : a_.eval (.tmp 12) = (.bool true) := hk_.got 4 12 _ (by kernel_rfl) rfl rfl
        have hx_ := hk_.ext
        clear hk_
        refine flow_plain rfl ?_
        exact gives_move rfl ⟨Below.refl _ _, h12⟩
      refine allFrom_cons ?_ ?_
      · intro a_ w_ hk_
        have h0 : a_.eval (.tmp 0) = .pointer (some ⟨gl, 0, none⟩) := hk_.old 0 (by kernel_rfl)
        have hg_ : a_.eval (.tmp 13) = .bool true := hk_.got 5 13 _ (by kernel_rfl) rfl rfl
        have hy_ := hk_.want 5 _ 13 true rfl rfl hg_
        have hx_ := hk_.ext
        clear hk_
        exact flow_skip rfl hy_ (by decide) trivial
      refine allFrom_cons ?_ ?_
      · intro a_ w_ hk_
        have hg_ : a_.eval (.tmp 13) = .bool true := hk_.got 5 13 _ (by kernel_rfl) rfl rfl
        have hy_ := hk_.want 5 _ 13 true rfl rfl hg_
        have hx_ := hk_.ext
        clear hk_
        exact flow_skip rfl hy_ (by decide) trivial
      refine allFrom_cons ?_ ?_
      · intro a_ w_ hk_
        have hg_ : a_.eval (.tmp 13) = .bool true := hk_.got 5 13 _ (by kernel_rfl) rfl rfl
        have hy_ := hk_.want 5 _ 13 true rfl rfl hg_
        have hx_ := hk_.ext
        clear hk_
        exact flow_skip rfl hy_ (by decide) trivial
      refine allFrom_cons ?_ ?_
      · intro a_ w_ hk_
        have hg_ : a_.eval (.tmp 13) = .bool true := hk_.got 5 13 _ (by kernel_rfl) rfl rfl
        have hy_ := hk_.want 5 _ 13 true rfl rfl hg_
        have hx_ := hk_.ext
        clear hk_
        exact flow_skip rfl hy_ (by decide) trivial
      refine allFrom_cons ?_ ?_
      · intro a_ w_ hk_
        have h0 : a_.eval (.tmp 0) = .pointer (some ⟨gl, 0, none⟩) := hk_.old 0 (by kernel_rfl)
        have hg_ : a_.eval (.tmp 13) = .bool true := hk_.got 5 13 _ (by kernel_rfl) rfl rfl
        have hy_ := hk_.want 5 _ 13 true rfl rfl hg_
        have hx_ := hk_.ext
        clear hk_
        exact flow_skip rfl hy_ (by decide) trivial
      refine allFrom_cons ?_ ?_
      · intro a_ w_ hk_
        have hg_ : a_.eval (.tmp 13) = .bool true := hk_.got 5 13 _ (by kernel_rfl) rfl rfl
        have hy_ := hk_.want 5 _ 13 true rfl rfl hg_
        have hx_ := hk_.ext
        clear hk_
        exact flow_skip rfl hy_ (by decide) trivial
      refine allFrom_cons ?_ ?_
      · intro a_ w_ hk_
        have hg_ : a_.eval (.tmp 13) = .bool true := hk_.got 5 13 _ (by kernel_rfl) rfl rfl
        have hy_ := hk_.want 5 _ 13 true rfl rfl hg_
        have hx_ := hk_.ext
        clear hk_
        exact flow_skip rfl hy_ (by decide) trivial
      refine allFrom_cons ?_ ?_
      · intro a_ w_ hk_
        have hg_ : a_.eval (.tmp 13) = .bool true := hk_.got 5 13 _ (by kernel_rfl) rfl rfl
        have hy_ := hk_.want 5 _ 13 true rfl rfl hg_
        have hx_ := hk_.ext
        clear hk_
        exact flow_skip rfl hy_ (by decide) trivial
      refine allFrom_cons ?_ ?_
      · intro a_ w_ hk_
        have hg_ : a_.eval (.tmp 13) = .bool true := hk_.got 5 13 _ (by kernel_rfl) rfl rfl
        have hy_ := hk_.want 5 _ 13 true rfl rfl hg_
        have hx_ := hk_.ext
        clear hk_
        exact flow_skip rfl hy_ (by decide) trivial
      refine allFrom_cons ?_ ?_
      · intro a_ w_ hk_
        have hg_ : a_.eval (.tmp 13) = .bool true := hk_.got 5 13 _ (by kernel_rfl) rfl rfl
        have hy_ := hk_.want 5 _ 13 true rfl rfl hg_
        have hx_ := hk_.ext
        clear hk_
        exact flow_skip rfl hy_ (by decide) trivial
      refine allFrom_cons ?_ ?_
      · intro a_ w_ hk_
        have h13 : a_.eval (.tmp 13) = (.bool true) := hk_.got 5 13 _ (by kernel_rfl) rfl rfl
        have hx_ := hk_.ext
        clear hk_
        refine flow_plain rfl ?_
        exact gives_pick rfl h13 ⟨Below.refl _ _, rfl⟩
      refine allFrom_cons ?_ ?_
      · intro a_ w_ hk_
        have h24 : a_.eval (.tmp 24) = (.bool true) := hk_.got 16 24 _ (by kernel_rfl) rfl rfl
        have hx_ := hk_.ext
        clear hk_
        refine flow_plain rfl ?_
        exact gives_assign rfl ⟨Below.refl _ _, h24⟩
      exact allFrom_nil
    intro f_ w_ hx_ hf_
    have h8 : f_ 8 = (.pointer (some ⟨gl, 0, none⟩)) := hf_ 0 8 _ (by decide) rfl rfl
    have h9 : f_ 9 = (.pointer (some ⟨gl, 0, none⟩)) := hf_ 1 9 _ (by decide) rfl rfl
    have h10 : f_ 10 = (.pointer (some ⟨gl, 7, none⟩)) := hf_ 2 10 _ (by decide) rfl rfl
    have h11 : f_ 11 = (.int .i64 L.e) := hf_ 3 11 _ (by decide) rfl rfl
    have h12 : f_ 12 = (.bool true) := hf_ 4 12 _ (by decide) rfl rfl
    have h13 : f_ 13 = (.bool true) := hf_ 5 13 _ (by decide) rfl rfl
    have h24 : f_ 24 = (.bool true) := hf_ 16 24 _ (by decide) rfl rfl
    have h7 : f_ 7 = (.bool true) := hf_ 17 7 _ (by decide) rfl rfl
    simp only [mix, List.drop_succ_cons, List.drop_zero, h8, h9, h10, h11, h12, h13, h24, h7]
    clear h8 h9 h10 h11 h12 h13 h24 h7
    clear hf_
    have c7x := (hx_.cell (p := ⟨gl, 7, none⟩) lgl).trans c7
    go_wp2_with fail
    refine bodyPost_ret (results_tmp rfl _ _ _) rfl ?_
    exact ⟨rfl, ⟨_, _, _, HL.out.below hx_ hB⟩, XFr.of_below hx_ hB⟩
end Go.Proofs.Ytlpdiamgpnmeoaa
