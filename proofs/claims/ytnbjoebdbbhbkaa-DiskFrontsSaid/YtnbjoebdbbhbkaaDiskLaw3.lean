/- DiskFails: its walk. -/
import Derived.Test.YtnbjoebdbbhbkaaDiskLaw1
import Derived.OpenShut
namespace Go.Proofs.Ytnbjoebdbbhbkaa
open Go.RowKit
set_option linter.unusedVariables false

/-- A disk that is told to fail behind k calls, behind i of them. -/
structure FS (D : DS) (k i lc : Nat) : Prop where
  n : D.n = 3
  loose : D.loose.length = lc
  up : i ≤ k → D.fails = ((k - i : Nat) : Int) ∧ D.dead = false
  down : k < i → D.dead = true
theorem FS.there {D : DS} {k i lc : Nat} (h : FS D k i lc) {j : Int} (h0 : 0 ≤ j) (h1 : j < 3) : thereB D j = true := by
  unfold thereB; rw [h.n]; simp; omega
theorem FS.count {D : DS} {k i lc : Nat} (h : FS D k i lc) (hi : i < k) : countE D = 0 ∧ countD D = { D with fails := D.fails - 1 } := by
  obtain ⟨h1, h2⟩ := h.up (by omega)
  have h3 : D.fails ≠ 0 := by omega
  have h4 : 0 < D.fails := by omega
  unfold countE countD
  rw [if_neg h3, if_neg h3, if_pos h4]
  exact ⟨rfl, rfl⟩
theorem FS.stop {D : DS} {k lc : Nat} (h : FS D k k lc) : countE D = 30 ∧ countD D = { D with dead := true } := by
  obtain ⟨h1, h2⟩ := h.up (Nat.le_refl _)
  have h3 : D.fails = 0 := by omega
  unfold countE countD
  rw [if_pos h3, if_pos h3]
  exact ⟨rfl, rfl⟩
def failE (k i : Nat) : Int := if i < k then 0 else 30
theorem FS.write {D : DS} {k i lc : Nat} (h : FS D k i lc) {j : Int} (h0 : 0 ≤ j) (h1 : j < 3) {l : List UInt8} (hl : l.length = 256) :
    writeE D j l = failE k i ∧ FS (writeD D j l) k (i + 1) (if i < k then lc + 1 else lc) := by
  have ht := h.there h0 h1
  unfold failE
  by_cases hi : i < k
  · obtain ⟨h2, h3⟩ := h.count hi
    obtain ⟨h4, h5⟩ := h.up (by omega)
    obtain ⟨h6, h7⟩ := writeD_ok h5 ht hl h2
    rw [if_pos hi, if_pos hi, h7, h6, h3]
    refine ⟨rfl, h.n, ?_, fun _ => ⟨?_, h5⟩, fun hh => by omega⟩
    · show (D.loose ++ [(j, l)]).length = lc + 1
      rw [List.length_append, h.loose]
      rfl
    · show D.fails - 1 = _
      omega
  · rw [if_neg hi, if_neg hi]
    by_cases hk : i = k
    · subst hk
      obtain ⟨h2, h3⟩ := h.stop
      obtain ⟨h4, h5⟩ := h.up (by omega)
      obtain ⟨h6, h7⟩ := writeD_count h5 ht hl (by omega)
      rw [h7, h6, h3, h2]
      exact ⟨rfl, h.n, h.loose, fun hh => by omega, fun _ => rfl⟩
    · have hd := h.down (by omega)
      obtain ⟨h6, h7⟩ := writeD_dead hd j l
      rw [h6, h7]
      exact ⟨rfl, h.n, h.loose, fun hh => by omega, fun _ => hd⟩
theorem FS.sync {D : DS} {k i lc : Nat} (h : FS D k i lc) : syncE D = failE k i ∧ FS (syncW D) k (i + 1) (if i < k then 0 else lc) := by
  unfold failE syncE syncW
  by_cases hi : i < k
  · obtain ⟨h2, h3⟩ := h.count hi
    obtain ⟨h4, h5⟩ := h.up (by omega)
    rw [if_pos hi, if_pos hi, h5, h2, h3, if_neg (by decide), if_neg (by decide), if_pos rfl]
    refine ⟨rfl, h.n, rfl, fun _ => ⟨?_, h5⟩, fun hh => by omega⟩
    show D.fails - 1 = _
    omega
  · rw [if_neg hi, if_neg hi]
    by_cases hk : i = k
    · subst hk
      obtain ⟨h2, h3⟩ := h.stop
      obtain ⟨h4, h5⟩ := h.up (by omega)
      rw [h5, h2, h3, if_neg (by decide), if_neg (by decide), if_neg (by decide)]
      exact ⟨rfl, h.n, h.loose, fun hh => by omega, fun _ => rfl⟩
    · have hd := h.down (by omega)
      rw [hd, if_pos rfl, if_pos rfl]
      exact ⟨rfl, h.n, h.loose, fun hh => by omega, fun _ => hd⟩
theorem FS.new {k : Nat} (D : DS) (h : D = failD (newD 3) k) : FS D k 0 0 := by
  subst h
  refine ⟨rfl, rfl, fun _ => ⟨?_, rfl⟩, fun hh => by omega⟩
  show (if (k : Int) < -1 then (-1 : Int) else k) = _
  rw [if_neg (by omega)]
  rfl
theorem FS.fell {D : DS} {k i lc : Nat} (h : FS D k (i + 1) lc) : D.dead = decide (k ≤ i) := by
  by_cases hi : k ≤ i
  · rw [h.down (by omega)]; simp [hi]
  · rw [(h.up (by omega)).2]; simp [hi]
theorem and3_walk (x : UInt8) : bits BinOp.and IntKind.u8 (x.toNat : Int) 3 = ((x.toNat % 4 : Nat) : Int) := by
  rw [show (3 : Int) = ((3 : Nat) : Int) from rfl, u8_and_nat _ _ x.toNat_lt (by omega)]
  congr 1
  exact Nat.and_two_pow_sub_one_eq_mod x.toNat 2
theorem crash_nil_sync {D : DS} : syncE (crashD D []) = 0 := by
  unfold syncE countE crashD
  rfl
set_option maxRecDepth 100000 in
set_option maxHeartbeats 4000000 in
theorem DiskFails_walk (w : World) (af : Int) (haf : (Lit.int .u8 af).wf = true) (A0 : Option Addr) (c0 : Nat) (l0 : List UInt8) (hc0 : l0.length ≤ c0) (hm0 : c0 ≤ maxLen) (hr0 : Rd w w.heap.size A0 (l0.map cb)) :
    Calls Try.prog 7 #[.int .u8 af, .slice A0 l0.length c0] w fun e w' => e = .returned (.bool true) ∧ Below w.heap.size w w' := by
  obtain ⟨n0, n1⟩ := bounds_u8 haf
  clear haf
  obtain ⟨nn, rfl⟩ := Int.eq_ofNat_of_zero_le n0
  have hq : ((nn : Int)).tmod 30 = ((nn % 30 : Nat) : Int) := (Int.tmod_eq_emod_of_nonneg (by omega)).trans (by omega)
  have hq3 : nn % 30 < 30 := Nat.mod_lt _ (by omega)
  generalize nn % 30 = q at *
  unfold maxLen at hm0
  go_enter Try.func7, Try.ntmps7
  go_wp2_with fail
  refine (awake_any _).mono ?_
  rintro e w1 ⟨rfl, hb1⟩
  by_cases hs0 : 40 < l0.length
  · go_wp2
    go_ret
    exact ⟨rfl, hb1⟩
  go_wp2_with fail
  refine (New_yes w1 3 (by omega) (by omega)).mono ?_
  rintro e w2 ⟨g, rfl, hd2, hb2⟩
  have hb12 := bx_trans hb1 hb2
  have hB := hb1.size
  have hR0 := hid hr0
  clear hr0
  go_wp2_with fail
  refine (Fail_any w2 hd2 (q : Int) (by omega)).mono ?_
  rintro e w3 ⟨rfl, hd3, hf3⟩
  have hF0 := FS.new (k := q) _ rfl
  have hb3 := hb12.trans (hf3.below.mono hB)
  clear hd2 hf3
  go_wp2
  go_loopw [9, 10] (fun lo j wr => ∃ (k lc : Nat) (D : DS), k ≤ l0.length ∧ j = .int .i64 k ∧ lo = .int .i64 lc ∧ lc ≤ k ∧ IsDisk wr w1.heap.size g D ∧ FS D q k lc ∧ Below w.heap.size w wr) (fun _ j _ => l0.length - (intOf j).toNat)
  case atStart => exact ⟨0, 0, _, by omega, rfl, rfl, by omega, hd3, hF0, hb3⟩
  case round =>
    obtain ⟨k, lc, D, hk, rfl, rfl, hlc, hD, hF, hbr⟩ := hrel
    have hDs : w1.heap.size ≤ wr.heap.size := by obtain ⟨_, _, _, h⟩ := hD; have := h.gB; have := h.blk.lt; omega
    clear hd3 hF0 hb3
    by_cases hlt : k < l0.length
    · obtain ⟨b, off, rfl, hbb, hd⟩ := (hR0.out.below hbr).at_ (k := k) (by simpa using hlt)
      have hcell : wr.cell? ⟨b, off + k, none⟩ = some (.int .u8 (l0[k].toNat : Int)) := hd k _ (by simp [cb, hlt])
      have hy8 := l0[k].toNat_lt
      have hbw : b < wr.heap.size := by have := hbr.size; omega
      have hz := and3_walk l0[k]
      have hy3 : ((l0[k].toNat : Int)).tmod 3 = ((l0[k].toNat % 3 : Nat) : Int) := (Int.tmod_eq_emod_of_nonneg (by omega)).trans (by omega)
      have hp3 : l0[k].toNat % 3 < 3 := Nat.mod_lt _ (by omega)
      clear hd
      generalize l0[k] = y at *
      generalize y.toNat % 4 = z at *
      generalize y.toNat % 3 = p at *
      by_cases hz0 : z = 0
      · subst hz0
        obtain ⟨hE, hW⟩ := hF.sync
        go_wp2_with fail
        refine (Sync_any wr hD).mono ?_
        rintro e w5 ⟨rfl, hd5, hf5⟩
        rw [hE]
        have hc5 := (hf5.below.cell (p := ⟨b, off + k, none⟩) (by show b < w1.heap.size; omega)).trans hcell
        have hdead := hW.fell
        have hloose := hW.loose
        have hb5 := hbr.trans (hf5.below.mono hB)
        generalize syncW D = E at *
        unfold failE
        clear hcell hE hD hF
        by_cases hi : k < q
        · rw [if_pos hi] at hW hloose ⊢
          have hde : decide (q ≤ k) = false := by simp; omega
          rw [hde] at hdead
          go_wp2_with fail
          refine (Dead_any w5 hd5).mono ?_
          rintro e w6 ⟨rfl, rfl⟩
          rw [hdead]
          go_wp2_with fail
          refine (Loose_any w5 hd5).mono ?_
          rintro e w6 ⟨rfl, rfl⟩
          rw [hloose]
          go_wp2
          go_roundw
          case rel => exact ⟨k + 1, 0, E, by omega, by go_num, rfl, by omega, hd5, hW, hb5⟩
          case measure => simp [intOf]; omega
        · rw [if_neg hi] at hW hloose ⊢
          have hde : decide (q ≤ k) = true := by simp; omega
          rw [hde] at hdead
          go_wp2_with fail
          refine (Dead_any w5 hd5).mono ?_
          rintro e w6 ⟨rfl, rfl⟩
          rw [hdead]
          go_wp2_with fail
          refine (Loose_any w5 hd5).mono ?_
          rintro e w6 ⟨rfl, rfl⟩
          rw [hloose]
          go_wp2
          go_roundw
          case rel => exact ⟨k + 1, lc, E, by omega, by go_num, rfl, by omega, hd5, hW, hb5⟩
          case measure => simp [intOf]; omega
      · have hz1 : ((z : Int) == 0) = false := by simpa using hz0
        clear hz0
        have HD := hid hD
        clear hD
        go_wp2_with fail
        refine wp_flow (by kernel_rfl) [0, 0, 0, 6, 14, 30, 62, 0, 255, 511] 8 [false, false, false, false, false, false, false, false, false, false, false, false, false, false, false, false, false, false, false, false, false, false, false, false, false, false, false, false, false, false, false, false, false, false, false, false, false, false, false, false, false, false, false, false, true, true, true, true, true, true, true, true, false] (by kernel_rfl) (by decide) (by kernel_rfl) [FP.eq (.pointer (some ⟨g, 0, none⟩)), FP.eq (.slice (some ⟨b, off, none⟩) l0.length c0), FP.eq (.int .i64 k), FP.eq (.pointer (some ⟨b, off + k, none⟩)), FP.eq (.int .u8 (y.toNat : Int)), FP.eq (.int .u8 (p : Int)), FP.eq (.int .i64 (p : Int)), FP.full []] ?_ ?_
        · refine allFrom_cons ?_ ?_
          · intro a_ w_ hk_
            have h6 : a_.eval (.tmp 6) = .pointer (some ⟨g, 0, none⟩) := hk_.old 6 (by kernel_rfl)
            have hx_ := hk_.ext
            clear hk_
            refine flow_plain rfl ?_
            exact gives_move rfl ⟨Below.refl _ _, h6⟩
          refine allFrom_cons ?_ ?_
          · intro a_ w_ hk_
            have h1 : a_.eval (.tmp 1) = .slice (some ⟨b, off, none⟩) l0.length c0 := hk_.old 1 (by kernel_rfl)
            have hx_ := hk_.ext
            clear hk_
            refine flow_plain rfl ?_
            exact gives_move rfl ⟨Below.refl _ _, h1⟩
          refine allFrom_cons ?_ ?_
          · intro a_ w_ hk_
            have h10 : a_.eval (.tmp 10) = .int .i64 k := hk_.old 10 (by kernel_rfl)
            have hx_ := hk_.ext
            clear hk_
            refine flow_plain rfl ?_
            exact gives_move rfl ⟨Below.refl _ _, h10⟩
          refine allFrom_cons ?_ ?_
          · intro a_ w_ hk_
            have h45 : a_.eval (.tmp 45) = (.slice (some ⟨b, off, none⟩) l0.length c0) := hk_.got 1 45 _ (by kernel_rfl) rfl rfl
            have h46 : a_.eval (.tmp 46) = (.int .i64 k) := hk_.got 2 46 _ (by kernel_rfl) rfl rfl
            have hx_ := hk_.ext
            clear hk_
            refine flow_plain rfl ?_
            unfold gives
            have hc_ : ∀ v, a_.eval (.const v) = v := fun _ => rfl
            have hn_ : ∀ f, a_.eval (.func f) = .func (.func f) #[] #[] := fun _ => rfl
            generalize a_.eval = ρ_ at *
            go_simp
            exact ⟨Below.refl _ _, rfl⟩
          refine allFrom_cons ?_ ?_
          · intro a_ w_ hk_
            have h47 : a_.eval (.tmp 47) = (.pointer (some ⟨b, off + k, none⟩)) := hk_.got 3 47 _ (by kernel_rfl) rfl rfl
            have hx_ := hk_.ext
            clear hk_
            refine flow_plain rfl ?_
            unfold gives
            have hc_ : ∀ v, a_.eval (.const v) = v := fun _ => rfl
            have hn_ : ∀ f, a_.eval (.func f) = .func (.func f) #[] #[] := fun _ => rfl
            have hcell := (hx_.cell (p := ⟨b, off + k, none⟩) hbw).trans hcell
            generalize a_.eval = ρ_ at *
            go_simp
            exact ⟨Below.refl _ _, rfl⟩
          refine allFrom_cons ?_ ?_
          · intro a_ w_ hk_
            have h48 : a_.eval (.tmp 48) = (.int .u8 (y.toNat : Int)) := hk_.got 4 48 _ (by kernel_rfl) rfl rfl
            have hx_ := hk_.ext
            clear hk_
            refine flow_plain rfl ?_
            unfold gives
            have hc_ : ∀ v, a_.eval (.const v) = v := fun _ => rfl
            have hn_ : ∀ f, a_.eval (.func f) = .func (.func f) #[] #[] := fun _ => rfl
            generalize a_.eval = ρ_ at *
            go_simp
            exact ⟨Below.refl _ _, rfl⟩
          refine allFrom_cons ?_ ?_
          · intro a_ w_ hk_
            have h49 : a_.eval (.tmp 49) = (.int .u8 (p : Int)) := hk_.got 5 49 _ (by kernel_rfl) rfl rfl
            have hx_ := hk_.ext
            clear hk_
            refine flow_plain rfl ?_
            unfold gives
            have hc_ : ∀ v, a_.eval (.const v) = v := fun _ => rfl
            have hn_ : ∀ f, a_.eval (.func f) = .func (.func f) #[] #[] := fun _ => rfl
            generalize a_.eval = ρ_ at *
            go_simp
            exact ⟨Below.refl _ _, congrArg (Value.int _) (wrap_i64s _ (by omega) (by omega))⟩
          refine allFrom_cons ?_ ?_
          · intro a_ w_ hk_
            have hx_ := hk_.ext
            clear hk_
            refine flow_plain rfl ?_
            unfold gives
            have hc_ : ∀ v, a_.eval (.const v) = v := fun _ => rfl
            have hn_ : ∀ f, a_.eval (.func f) = .func (.func f) #[] #[] := fun _ => rfl
            generalize a_.eval = ρ_ at *
            go_simp
            exact (full_any (l := []) _ (Rd.nil w_ 0 none) (Nat.zero_le _) (by simp [maxLen]) false).mono fun e w' ⟨g, h1, _, h3, h4⟩ => ⟨_, h1, h4, g, rfl, h3⟩
          exact allFrom_nil
        intro f_ w_ hx_ hf_
        have h44 : f_ 44 = (.pointer (some ⟨g, 0, none⟩)) := hf_ 0 44 _ (by decide) rfl rfl
        have h45 : f_ 45 = (.slice (some ⟨b, off, none⟩) l0.length c0) := hf_ 1 45 _ (by decide) rfl rfl
        have h46 : f_ 46 = (.int .i64 k) := hf_ 2 46 _ (by decide) rfl rfl
        have h47 : f_ 47 = (.pointer (some ⟨b, off + k, none⟩)) := hf_ 3 47 _ (by decide) rfl rfl
        have h48 : f_ 48 = (.int .u8 (y.toNat : Int)) := hf_ 4 48 _ (by decide) rfl rfl
        have h49 : f_ 49 = (.int .u8 (p : Int)) := hf_ 5 49 _ (by decide) rfl rfl
        have h50 : f_ 50 = (.int .i64 (p : Int)) := hf_ 6 50 _ (by decide) rfl rfl
        have h51 : (FP.full []).p (f_ 51) w_ := hf_ 7 51 _ (by decide) rfl rfl
        simp only [mix, List.drop_succ_cons, List.drop_zero, h44, h45, h46, h47, h48, h49, h50]
        clear h44 h45 h46 h47 h48 h49 h50
        clear hf_
        obtain ⟨gf, h51, hblkf⟩ := h51
        rw [h51]
        obtain ⟨hrf, hof⟩ := full_out hblkf false
        have hDw := HD.out.below hx_
        have hlf : (fullR [] false).length = 256 := fullX_length _
        obtain ⟨hE, hW⟩ := hF.write (j := (p : Int)) (by omega) (by omega) (l := fullR [] false) hlf
        have hroom := hF.loose
        go_wp2_with fail
        rw [← hlf]
        refine (Write_any w_ hDw (by have := hx_.size; omega) _ (by rw [hlf]; decide) (Kp.of_out hrf hof) (Nat.le_refl _) (by omega)).mono ?_
        rintro e w5 ⟨rfl, hd5, hf5⟩
        rw [hE]
        have hc5 := (hf5.below.cell (p := ⟨b, off + k, none⟩) (by show b < w1.heap.size; omega)).trans ((hx_.cell (p := ⟨b, off + k, none⟩) hbw).trans hcell)
        have hdead := hW.fell
        have hloose := hW.loose
        have hb5 := (bx_trans hbr hx_).trans (hf5.below.mono hB)
        generalize writeD D (p : Int) (fullR [] false) = E at *
        unfold failE
        clear hcell hE hF hDw
        by_cases hi : k < q
        · rw [if_pos hi] at hW hloose ⊢
          have hde : decide (q ≤ k) = false := by simp; omega
          rw [hde] at hdead
          go_wp2_with fail
          refine (Dead_any w5 hd5).mono ?_
          rintro e w6 ⟨rfl, rfl⟩
          rw [hdead]
          go_wp2_with fail
          refine (Loose_any w5 hd5).mono ?_
          rintro e w6 ⟨rfl, rfl⟩
          rw [hloose]
          go_wp2
          go_roundw
          case rel => exact ⟨k + 1, lc + 1, E, by omega, by go_num, by go_num, by omega, hd5, hW, hb5⟩
          case measure => simp [intOf]; omega
        · rw [if_neg hi] at hW hloose ⊢
          have hde : decide (q ≤ k) = true := by simp; omega
          rw [hde] at hdead
          go_wp2_with fail
          refine (Dead_any w5 hd5).mono ?_
          rintro e w6 ⟨rfl, rfl⟩
          rw [hdead]
          go_wp2_with fail
          refine (Loose_any w5 hd5).mono ?_
          rintro e w6 ⟨rfl, rfl⟩
          rw [hloose]
          go_wp2
          go_roundw
          case rel => exact ⟨k + 1, lc, E, by omega, by go_num, rfl, by omega, hd5, hW, hb5⟩
          case measure => simp [intOf]; omega
    · go_wp2_with fail
      refine (Crash_any wr hD (front := []) (c1 := 0) (fun _ _ => Rd.nil _ _ _) (Nat.zero_le _) (by simp [maxLen])).mono ?_
      rintro e w5 ⟨rfl, hd5, hf5⟩
      go_wp2_with fail
      refine (Dead_any w5 hd5).mono ?_
      rintro e w6 ⟨rfl, rfl⟩
      rw [show (crashD D []).dead = false from rfl]
      go_wp2_with fail
      refine (Sync_any w5 hd5).mono ?_
      rintro e w6 ⟨rfl, hd6, hf6⟩
      rw [crash_nil_sync]
      go_wp2
      go_ret
      exact ⟨rfl, hbr.trans ((hf5.below.trans hf6.below).mono hB)⟩
end Go.Proofs.Ytnbjoebdbbhbkaa
