
/- Records: Open walked. -/
import Derived.Test.YtlpdiamgpnmeoaaWaE
namespace Go.Proofs.Ytlpdiamgpnmeoaa
open Go.RowKit
set_option linter.unusedVariables false
/-- What a log is while it is opened. -/
def opnL (size : Nat) (st : Nat × Nat × Nat) (b : List UInt8) : LS := { size := size, turn := st.1, area := st.2.1, b := b, rows := [], sure := 0, e := 0 }
theorem framesL_many (b : List UInt8) : (framesL b).1.length * 8 ≤ b.length := by
  induction hn : b.length using Nat.strongRecOn generalizing b with
  | _ n ih =>
    subst hn
    rw [framesL]
    split
    · show 0 ≤ _; omega
    · rename_i h0
      split
      · show 0 ≤ _; omega
      · rename_i hbad
        split
        · show 0 ≤ _; omega
        · split
          · have := ih _ (by rw [List.length_drop]; omega) (b.drop (8 + nOf b)) rfl
            rw [List.length_drop] at this
            unfold badB at hbad
            show ((framesL (b.drop (8 + nOf b))).1.length + 1) * 8 ≤ b.length
            omega
          · show 0 ≤ _; omega
theorem framesL_short (b : List UInt8) : ∀ r ∈ (framesL b).1, r.length ≤ 16384 := by
  induction hn : b.length using Nat.strongRecOn generalizing b with
  | _ n ih =>
    subst hn
    rw [framesL]
    split
    · intro r hr; cases hr
    · rename_i h0
      split
      · intro r hr; cases hr
      · rename_i hbad
        split
        · intro r hr; cases hr
        · split
          · intro r hr
            rcases List.mem_cons.1 hr with rfl | hr
            · unfold badB at hbad
              unfold recB
              rw [List.length_take]
              omega
            · exact ih _ (by rw [List.length_drop]; omega) (b.drop (8 + nOf b)) rfl r hr
          · intro r hr; cases hr
/-- What Open tells. -/
def OpenPost (w : World) (B g : Nat) (D : DS) (e : Ending) (w' : World) : Prop := Below w.heap.size w w' ∧ ∃ p, e = .returned (.tuple #[p, .int .i64 (framesL (openB D)).2]) ∧ ((framesL (openB D)).2 ≠ 0 → p = .pointer none) ∧ ((framesL (openB D)).2 = 0 → ∃ gl, p = .pointer (some ⟨gl, 0, none⟩) ∧ ALog w' B gl g D (openL D))
def ofInt : Value → Int
  | .int _ n => n
  | _ => 0
set_option maxRecDepth 100000 in
set_option maxHeartbeats 4000000 in
theorem Open_any (w : World) {B g : Nat} {D : DS} (h : IsDisk w B g D) (hB : B ≤ w.heap.size) (hn : 4 ≤ D.n) (hd : D.dead = false) :
    Calls Try.prog 12 #[.pointer (some ⟨g, 0, none⟩)] w (OpenPost w B g D) := by
  have hok : D.Ok := h.choose_spec.choose_spec.choose_spec.ok
  have hn2 := hok.n1
  have HD := hid h
  have hg : g < w.heap.size := by obtain ⟨m, A, c, hI⟩ := h; exact hI.blk.lt
  obtain ⟨size, hsz⟩ : ∃ size, size = sizeD D := ⟨_, rfl⟩
  have hs2 : size * 2 + 2 ≤ D.n ∧ D.n < size * 2 + 4 := by rw [hsz]; unfold sizeD; omega
  have HSZ := hid hsz
  have hLE := hid (fun w (h : IsDisk w B g D) => Len_any w h)
  have hDE := hid (fun w (h : IsDisk w B g D) => Dead_any w h)
  obtain ⟨n, hN⟩ : ∃ n, n = D.n := ⟨_, rfl⟩
  rw [← hN] at hn hn2 hs2 hLE
  have HN := hid hN
  have hdn := hid hd
  rw [hd] at hDE
  have h4 : ¬ (n : Int) < 4 := by omega
  have hq : ((n : Int) - 2).tdiv 2 = (size : Int) := by rw [Int.tdiv_eq_ediv_of_nonneg (by omega)]; omega
  clear h hsz hN hd
  go_enter Try.func12, Try.ntmps12
  go_wp2_with fail
  refine (hLE.out w HD.out).mono ?_
  rintro e w1 ⟨rfl, rfl⟩
  go_wp2_with fail
  refine (hDE.out w HD.out).mono ?_
  rintro e w1 ⟨rfl, rfl⟩
  go_wp2_with fail
  refine (hLE.out w HD.out).mono ?_
  rintro e w1 ⟨rfl, rfl⟩
  go_wp2_with fail
  have hblk0 : Blk (w.alloc (.cells (logc g (opnL size (0, 0, 0) []) (.slice none 0 0) (.slice none 0 0)) tLog)) w.heap.size tLog (logc g (opnL size (0, 0, 0) []) (.slice none 0 0) (.slice none 0 0)) := Blk.new w _ _
  have hb0 : Below w.heap.size w (w.alloc (.cells (logc g (opnL size (0, 0, 0) []) (.slice none 0 0) (.slice none 0 0)) tLog)) := bx_alloc (Below.refl _ _) _
  go_loopw [5, 6, 7, 8, 9, 10, 30] (fun v5 _ _ _ _ _ v30 wr => ∃ i : Nat, i ≤ 2 ∧ v30 = .int .i64 (i : Int) ∧ v5 = .int .i64 ((stS D size i).2.2 : Int) ∧ Blk wr w.heap.size tLog (logc g (opnL size (stS D size i) []) (.slice none 0 0) (.slice none 0 0)) ∧ Below w.heap.size w wr) (fun _ _ _ _ _ _ v30 _ => 3 - (ofInt v30).toNat)
  case atStart => exact ⟨0, by omega, rfl, rfl, hblk0, hb0⟩
  case round =>
    obtain ⟨i, hi, rfl, rfl, hblk, hbr⟩ := hrel
    rename World => wr
    clear hblk0 hb0
    have hDr := HD.out.below hbr
    have hBr := Nat.le_trans hB hbr.size
    have HBR := hid hbr
    have hgl := hblk.lt
    by_cases hlt : i < 2
    · have hii : (i : Int) < 2 := by omega
      have hre : readE D (i : Int) = 0 := by unfold readE thereB; rw [hdn.out, ← HN.out, decide_eq_true (by omega), decide_eq_true (by omega)]; rfl
      have HC := hid (counts_any (size := size) wr hDr hBr hblk rfl rfl (by omega) (i : Int) hre)
      obtain ⟨b, hbd⟩ : ∃ b, b = readAt D (i : Int) := ⟨_, rfl⟩
      obtain ⟨st, hst⟩ : ∃ st, st = stS D size i := ⟨_, rfl⟩
      have hsl := stS_lt D size i
      have hstn : stS D size (i + 1) = pickS size st b := by rw [hst, hbd]; rfl
      rw [← hst] at hsl hblk ⊢
      rw [← hbd] at HC
      obtain ⟨t, t1, t2⟩ := st
      have HSTN := hid hstn
      have HBL := hid hblk
      clear hst hstn hbd hDr hre hblk
      go_wp2_with fail
      refine HC.out.mono ?_
      rintro e w1 ⟨rfl, hb1⟩
      have hblk1 := HBL.out.below hb1 hgl
      have hbr1 := HBR.out.trans (hb1.mono HBR.out.size)
      have hB1 := HBR.out.size
      have c2 : w1.cell? ⟨w.heap.size, 2, none⟩ = some (.int .u64 (t : Int)) := hblk1.cell 2
      clear HBL HC
      have hrest : ∀ (w2 : World) (v5 : Nat), v5 = (pickS size (t, t1, t2) b).2.2 → Blk w2 w.heap.size tLog (logc g (opnL size (pickS size (t, t1, t2) b) []) (.slice none 0 0) (.slice none 0 0)) → Below w.heap.size w w2 → ∃ i' : Nat, i' ≤ 2 ∧ Value.int IntKind.i64 ((i : Int) + 1) = .int .i64 (i' : Int) ∧ Value.int IntKind.i64 (v5 : Int) = .int .i64 ((stS D size i').2.2 : Int) ∧ Blk w2 w.heap.size tLog (logc g (opnL size (stS D size i') []) (.slice none 0 0) (.slice none 0 0)) ∧ Below w.heap.size w w2 := by
        intro w2 v5 h1 h2 h3
        refine ⟨i + 1, by omega, by push_cast; rfl, ?_, ?_, h3⟩
        · rw [HSTN.out, h1]
        · rw [HSTN.out]; exact h2
      have HRS := hid hrest
      clear hrest
      have htb := tOf_lt b
      have hab := aOf_lt b
      have hlb := lOf_lt b
      unfold pickS at HRS
      obtain ⟨q, hq⟩ : ∃ q, q = isS size b := ⟨_, rfl⟩
      rw [← hq] at HRS ⊢
      have HQ := hid hq
      clear hq
      obtain ⟨tb, htb'⟩ : ∃ x, x = tOf b := ⟨_, rfl⟩
      obtain ⟨ab, hab'⟩ : ∃ x, x = aOf b := ⟨_, rfl⟩
      obtain ⟨lb, hlb'⟩ : ∃ x, x = lOf b := ⟨_, rfl⟩
      rw [← htb'] at htb HRS ⊢
      rw [← hab'] at hab HRS ⊢
      rw [← hlb'] at hlb HRS ⊢
      clear htb' hab' hlb'
      cases q with
      | false =>
        rw [if_neg (fun hh => by cases hh.1)] at HRS
        go_wp2_with fail
        exact ⟨HRS.out w1 t2 rfl hblk1 hbr1, by show 3 - ((i : Int) + 1).toNat < 3 - (i : Int).toNat; omega⟩
      | true =>
        by_cases hlt2 : t < tb
        · rw [if_pos ⟨rfl, hlt2⟩] at HRS
          have hlt3 : (t : Int) < (tb : Int) := by omega
          go_wp2_with (first
            | (refine wpList_store1 rfl 59 _ _ rfl w.heap.size 2 rfl _ rfl sz59 rfl hblk1 (show 2 < 8 by omega) ?_; intro w2 hp2; simp only [Act.put])
            | (refine wpList_store1 rfl 3 _ _ rfl w.heap.size 3 rfl _ rfl sz3 rfl hp2.blk (show 3 < 8 by omega) ?_; intro w3 hp3; simp only [Act.put]))
          have hbr3 := (hbr1.trans (hp2.below (Nat.le_refl _))).trans (hp3.below (Nat.le_refl _))
          exact ⟨HRS.out w3 lb rfl hp3.blk hbr3, by show 3 - ((i : Int) + 1).toNat < 3 - (i : Int).toNat; omega⟩
        · rw [if_neg (fun hh => hlt2 hh.2)] at HRS
          obtain ⟨ti, hti⟩ : ∃ x : Int, x = (t : Int) := ⟨_, rfl⟩
          obtain ⟨tbi, htbi⟩ : ∃ x : Int, x = (tb : Int) := ⟨_, rfl⟩
          rw [← htbi]
          rw [← hti] at c2
          have hlt3 : ¬ ti < tbi := by omega
          clear hti htbi hlt2
          go_wp2_with fail
          exact ⟨HRS.out w1 t2 rfl hblk1 hbr1, by show 3 - ((i : Int) + 1).toNat < 3 - (i : Int).toNat; omega⟩
    · have hi2 : i = 2 := by omega
      subst hi2
      clear hlt
      go_wp2_with fail
      obtain ⟨hst1, hst2, hst3⟩ := stS_lt D size 2
      obtain ⟨st, hst⟩ : ∃ st, st = stS D size 2 := ⟨_, rfl⟩
      rw [← hst] at hst1 hst2 hst3 hblk ⊢
      obtain ⟨t, t1, t2⟩ := st
      replace hst1 : t < 18446744073709551616 := hst1
      replace hst2 : t1 < 2 := hst2
      replace hst3 : t2 ≤ size * 256 := hst3
      have HST := hid hst
      clear hst
      obtain ⟨f, hf⟩ : ∃ f, f = 2 + t1 * size := ⟨_, rfl⟩
      have hfn : f + size ≤ n := by
        have : t1 * size ≤ 1 * size := Nat.mul_le_mul_right _ (Nat.le_of_lt_succ hst2)
        omega
      have HF := hid hf
      clear hf
      rw [show ((2 : Nat) : Int) = 2 from rfl]
      have hblk0 : Blk wr w.heap.size tLog (logc g (opnL size (t, t1, t2) (runB D f 0)) (.slice none 0 0) (.slice none 0 0)) := hblk
      clear hblk
      go_loopw [11, 12, 13] (fun v11 _ _ wr => ∃ (k : Nat) (vb : Value), v11 = .int .i64 (k : Int) ∧ k ≤ size ∧ Blk wr w.heap.size tLog (logc g (opnL size (t, t1, t2) (runB D f k)) vb (.slice none 0 0)) ∧ wr.ownsRow w.heap.size tU8 1 vb (runB D f k).length ((runB D f k).map cb) ∧ Below w.heap.size w wr) (fun v11 _ _ _ => size + 1 - (ofInt v11).toNat)
      case atStart => exact ⟨0, .slice none 0 0, rfl, by omega, hblk0, nil_ownC _ _ _ _, hbr⟩
      case round =>
        obtain ⟨k, vb, rfl, hk, hblk, hown, hbr⟩ := hrel
        rename World => wr2
        clear hblk0 hDr hgl hBr HBR
        obtain ⟨A, c, rfl, hRc, hcm, hRd⟩ := own_form hown
        have hRl := runB_len hok f k
        obtain ⟨R, hR⟩ : ∃ R, R = runB D f k := ⟨_, rfl⟩
        rw [← hR] at hblk hown hRc hRd hRl
        have HR := hid hR
        have HRL := hid hRl
        have hc4 : wr2.cell? ⟨w.heap.size, 4, none⟩ = some (.slice A R.length c) := hblk.cell 4
        have hc3 : wr2.cell? ⟨w.heap.size, 3, none⟩ = some (.int .i64 (t1 : Int)) := hblk.cell 3
        have hlk : R.length ≤ size * 256 := by rw [hRl]; exact Nat.mul_le_mul_right _ hk
        have hgl := hblk.lt
        have HBR := hid hbr
        have HOW := hid hown
        have HBK := hid hblk
        by_cases hlt : R.length < t2
        · have hks : k < size := by
            have : k * 256 < size * 256 := by omega
            omega
          have hlti : (R.length : Int) < (t2 : Int) := by omega
          have HFI := hid (first_any wr2 hblk (size := size) (area := t1) rfl (by omega) (by omega))
          rw [← HF.out] at HFI
          clear hR hRl hown hblk hbr hlt
          go_wp2_with fail
          refine HFI.out.mono ?_
          rintro e w3 ⟨rfl, rfl⟩
          have hre : readE D ((f : Int) + (k : Int)) = 0 := by unfold readE thereB; rw [hdn.out, ← HN.out, decide_eq_true (by omega), decide_eq_true (by omega)]; rfl
          have HRE := hid (Read_any wr2 (HD.out.below HBR.out) (Nat.le_trans hB HBR.out.size) ((f : Int) + (k : Int)))
          rw [hre, show readV D ((f : Int) + (k : Int)) = readAt D ((f : Int) + (k : Int)) from by unfold readV; rw [if_pos hre]] at HRE
          obtain ⟨x, hx⟩ : ∃ x, x = readAt D ((f : Int) + (k : Int)) := ⟨_, rfl⟩
          have hxl := readAt_len hok ((f : Int) + (k : Int))
          rw [← hx] at hxl HRE
          have HX := hid hx
          have HXL := hid hxl
          clear hx hxl hre
          go_wp2_with fail
          refine HRE.out.mono ?_
          rintro e w4 ⟨v, rfl, ⟨A4, c4, rfl, hc4', hrd4, _⟩, hb4⟩
          have hbr4 := HBR.out.trans (hb4.mono HBR.out.size)
          have hbk4 := HBK.out.below hb4 hgl
          have hown4 := own_keepW HOW.out hb4
          have hc44 : w4.cell? ⟨w.heap.size, 4, none⟩ = some (.slice A R.length c) := hbk4.cell 4
          have h63 : R.length + x.length ≤ maxLen := by rw [HXL.out]; unfold maxLen; omega
          have hby : (R.length + x.length) * 1 ≤ 140737488355328 := by rw [HXL.out]; omega
          go_wp2_with (first
            | (at_builtin; refine wpList_app rfl _ _ _ rfl _ rfl _ _ _ rfl elU8 hown4 hrd4 (by rw [List.length_map, Nat.mul_one]) (one_cb x) h63 hby hbr4.size ?_; intro v5 w5 hown5 hg5 hat5; have hbk5 : Blk w5 w.heap.size tLog _ := (hg5.block _ hbk4.lt (fun e => own_ne hown4 hbk4 (fun cur hx => by injection hx with _ hx; exact absurd hx (by decide)) e.symm)).trans hbk4; obtain ⟨A5, c5, rfl, hc5, _, hr5⟩ := own_form hown5)
            | (refine wpList_store1 rfl 23 _ _ rfl w.heap.size 4 rfl _ rfl sz23 rfl hbk5 (show 4 < 8 by omega) ?_; intro w6 hp6; simp only [Act.put]))
          have hown6 := own_put hown5 hbk5 hp6 (by decide)
          have hbr5 := own_below hbr4 hown4 hg5
          have hbr6 := hbr5.trans (hp6.below (Nat.le_refl _))
          have hRX : R ++ x = runB D f (k + 1) := by rw [HR.out, HX.out]; rfl
          have hRXl : R.length + x.length = (runB D f (k + 1)).length := by rw [← hRX, List.length_append]
          rw [← List.map_append, hRX, hRXl] at hown6
          have hblk6 : Blk w6 w.heap.size tLog (logc g (opnL size (t, t1, t2) (R ++ x)) (.slice A5 (R.length + x.length) c5) (.slice none 0 0)) := hp6.blk
          rw [hRX, hRXl] at hblk6
          exact ⟨⟨k + 1, _, by push_cast; rfl, hks, hblk6, hown6, hbr6⟩, by show size + 1 - ((k : Int) + 1).toNat < size + 1 - (k : Int).toNat; omega⟩
        · have ht2 : t2 ≤ R.length := by omega
          have hlti : ¬ (R.length : Int) < (t2 : Int) := by omega
          have htc : (t2 : Int) ≤ (c : Int) := by omega
          obtain ⟨y, hy⟩ : ∃ y, y = R.take t2 := ⟨_, rfl⟩
          have hyl : y.length = t2 := by rw [hy, List.length_take]; omega
          have hyo : y = openB D := by
            rw [hy, hR, HF.out]
            unfold openB
            rw [← HSZ.out, ← HST.out]
            exact (runB_tail hok _ hk (by rw [← hRl]; exact ht2)).symm
          have HY := hid hy
          have HYL := hid hyl
          have HYO := hid hyo
          clear hy hyl hyo hR hRl hown hblk hbr hlt
          go_wp2_with (refine wpList_store1 rfl 23 _ _ rfl w.heap.size 4 rfl _ rfl sz23 rfl HBK.out (show 4 < 8 by omega) ?_; intro w6 hp6; have hblk6 : Blk w6 w.heap.size tLog (logc g (opnL size (t, t1, t2) y) (.slice A t2 c) (.slice none 0 0)) := hp6.blk; have hc46 : w6.cell? ⟨w.heap.size, 4, none⟩ = some (.slice A t2 c) := hblk6.cell 4; simp only [Act.put])
          have hown6 := own_put HOW.out HBK.out hp6 (by decide)
          have hbr6 := HBR.out.trans (hp6.below (Nat.le_refl _))
          have hrd6 : Rd w6 w6.heap.size A (y.map cb) := by rw [HY.out, List.map_take]; exact (own_rd hown6).take _
          have hfr := frames_any w6 hrd6 (c := c) (by rw [HYL.out]; omega) hcm (by rw [HYL.out]; omega)
          have hso6 : SlO w6 (.slice A y.length c) y := by
            refine ⟨A, c, rfl, by rw [HYL.out]; omega, hcm, hrd6, fun a ha => ?_⟩
            exact own_out hown6 rfl a ha
          rw [HYL.out] at hfr hso6
          refine hfr.mono ?_
          have hdk6 := HD.out.below hbr6
          rintro e w7 ⟨vo, vs, rfl, hrow7, hb7⟩
          have hbr7 := bx_trans hbr6 hb7
          have hblk7 := hblk6.below hb7 hblk6.lt
          have hdk7 := HD.out.below hbr7
          have hso7 : SlO w7 (.slice A t2 c) y := hso6.xfr (XFr.of_below (ex := []) (B := 0) hb7 (Nat.zero_le _)) (by simp)
          have hrow := hrow7.less (Nat.le_trans hB hbr6.size)
          have hmany := framesL_many y
          obtain ⟨FE, hFE⟩ : ∃ x, x = (framesL y).2 := ⟨_, rfl⟩
          obtain ⟨FR, hFR⟩ : ∃ x, x = (framesL y).1 := ⟨_, rfl⟩
          have hOB : (framesL (openB D)).2 = FE := by rw [hFE, HYO.out]
          have hOR : (framesL (openB D)).1 = FR := by rw [hFR, HYO.out]
          rw [← hFE]
          rw [← hFR] at hmany hrow
          obtain ⟨A7, c7, rfl, hc7, hm7, _⟩ := own_form hrow.own
          have HO := hid (And.intro hOB hOR)
          have HRW := hid hrow
          have HDK := hid hdk7
          have HSO := hid hso7
          have HMY := hid hmany
          clear hOB hOR hFE hFR hrow hrow7 hdk6 hdk7 hso6 hso7 hmany hfr hown6 hp6
          have hvl : (FR.length : Int) ≤ 10000000 := by have := HMY.out; have := HYL.out; omega
          by_cases hz : FE = 0
          · subst hz
            go_wp2_with (first
              | (refine wpList_store1 rfl 22 _ _ rfl w.heap.size 5 rfl _ rfl sz22 rfl hblk7 (show 5 < 8 by omega) ?_; intro w8 hp8; simp only [Act.put])
              | (refine wpList_store1 rfl 3 _ _ rfl w.heap.size 6 rfl _ rfl sz3 rfl hp8.blk (show 6 < 8 by omega) ?_; intro w9 hp9; simp only [Act.put]))
            have hbr9 := (hbr7.trans (hp8.below (Nat.le_refl _))).trans (hp9.below (Nat.le_refl _))
            have hf9 : XFr [tLog] w.heap.size w7 w9 := (XFr.of_put hblk7 hp8 (Nat.le_refl _) (by simp)).trans (XFr.of_put hp8.blk hp9 (Nat.le_refl _) (by simp))
            have hblk9 : Blk w9 w.heap.size tLog (logc g (openL D) (.slice A t2 c) (.slice A7 FR.length c7)) := by
              have hS := HSZ.out
              have hT := HST.out
              rw [hS] at hT
              have e1 : (openL D).size = size := hS.symm
              have e2 : (openL D).turn = t := by show (stS D (sizeD D) 2).1 = t; rw [← hT]
              have e3 : (openL D).area = t1 := by show (stS D (sizeD D) 2).2.1 = t1; rw [← hT]
              have e4 : (openL D).sure = FR.length := by show (framesL (openB D)).1.length = _; rw [HO.out.2]
              unfold logc
              rw [e1, e2, e3, e4]
              exact hp9.blk
            refine bodyPost_ret (results_tmp2 rfl _ _ _) rfl ⟨hbr9, .pointer (some ⟨w.heap.size, 0, none⟩), by rw [HO.out.1]; rfl, fun h0 => absurd HO.out.1 h0, fun _ => ⟨w.heap.size, rfl, .slice A t2 c, .slice A7 FR.length c7, vs, ?_⟩⟩
            have hlt := stS_lt D (sizeD D) 2
            have hyo := HYO.out
            have hyl := HYL.out
            have hor := HO.out.2
            refine ⟨HD.out.below hbr9, hblk9, ?_, ?_, hB, rfl, hlt.1, hlt.2.1, ?_, Nat.le_refl _, ?_, framesL_short _⟩
            · show SlO w9 _ (openB D)
              rw [← hyo]
              exact HSO.out.xfr hf9 (by decide)
            · show RowsAt w9 B _ vs (framesL (openB D)).1
              rw [hor]
              exact HRW.out.xfr hf9 (by decide) (by decide)
            · show (openB D).length ≤ sizeD D * 256
              rw [← hyo, ← HSZ.out, hyl]
              exact hst3
            · show (framesL (openB D)).1.length * 8 ≤ (openB D).length
              rw [hor, ← hyo]
              exact HMY.out
          · go_wp2_with fail
            exact bodyPost_ret (results_tmp2 rfl _ _ _) rfl ⟨hbr7, .pointer none, by rw [HO.out.1]; rfl, fun _ => rfl, fun h0 => absurd (HO.out.1.symm.trans h0) hz⟩
end Go.Proofs.Ytlpdiamgpnmeoaa
