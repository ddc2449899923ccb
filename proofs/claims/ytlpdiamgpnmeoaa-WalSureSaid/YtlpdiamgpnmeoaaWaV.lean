
/- Records, plain: the log's invariant, kept by its calls. -/
import Derived.Test.YtlpdiamgpnmeoaaWaU
namespace Go.Proofs.Ytlpdiamgpnmeoaa
open Go.RowKit
set_option linter.unusedVariables false
theorem blkC_some {c : List UInt8} {p : Nat} {v : UInt8} (h : c[p]? = some v) : (blkC c (p / 256))[p % 256]? = some v := by
  obtain ⟨h1, h2⟩ := List.getElem?_eq_some_iff.1 h
  rw [blkC_get h1, h2]
theorem lay_harm {now bs : List UInt8} {f0 fr : Nat} (h2 : 2 ≤ f0) (hp : ∃ t, now = bs ++ t) (m : Nat) : ∀ z ∈ layWs (f0 + fr / 256) (layB now fr) m, Harm f0 bs z := by
  intro z hz
  obtain ⟨j, _, rfl⟩ := List.mem_map.1 hz
  refine ⟨blkC_len _ _, by show (2 : Int) ≤ ((f0 + fr / 256 + j : Nat) : Int); omega, fun p hpl he => ?_⟩
  have he2 : f0 + fr / 256 + j = f0 + p / 256 := by
    have : ((f0 + fr / 256 + j : Nat) : Int) = ((f0 + p / 256 : Nat) : Int) := he
    omega
  obtain ⟨t, rfl⟩ := hp
  have hj : j = (p - fr / 256 * 256) / 256 := by omega
  have hm : p % 256 = (p - fr / 256 * 256) % 256 := by omega
  have hge : fr / 256 * 256 ≤ p := by omega
  show (blkC (layB (bs ++ t) fr) j)[p % 256]? = _
  rw [hj, hm]
  refine blkC_some ?_
  unfold layB
  rw [List.getElem?_drop, show fr / 256 * 256 + (p - fr / 256 * 256) = p by omega, List.getElem?_append_left hpl, List.getElem?_eq_getElem hpl]
theorem lay_read {D D' : DS} {now : List UInt8} {f0 fr : Nat} (hfr : fr ≤ now.length) (hr : Ag (readAt D) f0 (now.take fr)) (hg : D'.good = D.good) (hl : D'.loose = D.loose ++ layWs (f0 + fr / 256) (layB now fr) (piecesN (layB now fr))) : Ag (readAt D') f0 now := by
  intro p hp
  have he : readAt D' ((f0 + p / 256 : Nat) : Int) = readL ((f0 + p / 256 : Nat) : Int) (layWs (f0 + fr / 256) (layB now fr) (piecesN (layB now fr))) (readAt D ((f0 + p / 256 : Nat) : Int)) := by
    unfold readAt goodAt
    rw [hl, hg, readL_app]
  rw [he]
  obtain ⟨h1, h2⟩ := readL_lay (f0 + fr / 256) (layB now fr) ((f0 + p / 256 : Nat) : Int) (readAt D ((f0 + p / 256 : Nat) : Int)) (piecesN (layB now fr))
  by_cases hk : p / 256 < fr / 256
  · rw [h2 (fun j _ => by omega)]
    have := hr p (by rw [List.length_take]; omega)
    rw [this, List.getElem_take]
  · have hlen : (layB now fr).length = now.length - fr / 256 * 256 := by unfold layB; rw [List.length_drop]
    have hlt : p - fr / 256 * 256 < (layB now fr).length := by omega
    rw [h1 ((p - fr / 256 * 256) / 256) (by unfold piecesN; omega) (by omega), show p % 256 = (p - fr / 256 * 256) % 256 by omega]
    refine blkC_some ?_
    unfold layB
    rw [List.getElem?_drop, show fr / 256 * 256 + (p - fr / 256 * 256) = p by omega, List.getElem?_eq_getElem hp]
/-- The log, over its disk; rs are the records that are there for good. -/
structure LInv (D : DS) (L : LS) (rs : List (List UInt8)) : Prop where
  size : L.size = sizeD D
  dur : Dur D.good L.size L.turn L.area rs
  harm : ∀ z ∈ D.loose, Harm (2 + L.area * L.size) (framL rs) z
  read : Ag (readAt D) (2 + L.area * L.size) L.b
  b : L.b = framL L.rows
  pre : ∃ t, L.rows = rs ++ t
  sure : L.sure = rs.length
  short : ∀ r ∈ L.rows, r.length ≤ 16384
  fit : L.b.length ≤ L.size * 256
  e : L.e = 0
  alive : D.dead = false
  n4 : 4 ≤ D.n
theorem framL_app (a b : List (List UInt8)) : framL (a ++ b) = framL a ++ framL b := by simp [framL]
theorem LInv.crash {D : DS} {L : LS} {rs : List (List UInt8)} (h : LInv D L rs) (front : List UInt8) : Dur (crashD D front).good L.size L.turn L.area rs := h.dur.crashD h.harm front
/-- A log just opened. -/
theorem LInv.opened {D : DS} {size T a : Nat} {rs : List (List UInt8)} (hl : D.loose = []) (hd : D.dead = false) (hn : 4 ≤ D.n) (hs : size = sizeD D) (h : Dur D.good size T a rs) : LInv D { size := size, turn := T, area := a, b := framL rs, rows := rs, sure := rs.length, e := 0 } rs :=
  ⟨hs, h, (fun z hz => by rw [hl] at hz; cases hz), (fun p hp => by rw [readAt_good hl]; exact h.ag p hp), rfl, ⟨[], (List.append_nil _).symm⟩, rfl, h.short, h.fits, rfl, hd, hn⟩
theorem n_size (D : DS) (h : 4 ≤ D.n) {a : Nat} (ha : a < 2) : 2 + a * sizeD D + sizeD D ≤ D.n := by
  unfold sizeD
  have : a * ((D.n - 2) / 2) ≤ 1 * ((D.n - 2) / 2) := Nat.mul_le_mul_right _ (by omega)
  omega
/-- What Append does. -/
theorem app_inv {D : DS} {L : LS} {rs : List (List UInt8)} (h : LInv D L rs) {b : List UInt8} (hb : b.length ≤ 16384) :
    ((appS D L b).1 = 0 ∧ L.b.length + (8 + b.length) ≤ L.size * 256 ∧ LInv (appS D L b).2.1 (appS D L b).2.2 rs ∧ (appS D L b).2.2 = { L with b := L.b ++ frameL b, rows := L.rows ++ [b] } ∧ (D.fails = -1 → (appS D L b).2.1.fails = -1) ∧ (appS D L b).2.1.n = D.n) ∨
    ((appS D L b).1 = 31 ∧ L.size * 256 < L.b.length + (8 + b.length) ∧ (appS D L b).2 = (D, L)) ∨
    ((appS D L b).1 = 30 ∧ (appS D L b).2.2 = { L with e := 30 } ∧ (appS D L b).2.1.dead = true ∧ (appS D L b).2.1.n = D.n ∧ D.fails ≠ -1 ∧ ∀ front, Dur (crashD (appS D L b).2.1 front).good L.size L.turn L.area rs) := by
  have hfit := h.fit
  by_cases hful : L.size * 256 - L.b.length < 8 + b.length
  · have e : appS D L b = (31, D, L) := by unfold appS; rw [if_neg (fun hh => hh h.e), if_neg (by omega), if_pos hful]
    rw [e]
    exact .inr (.inl ⟨rfl, by omega, rfl⟩)
  · obtain ⟨X, hX⟩ : ∃ X, X = layB (L.b ++ frameL b) L.b.length := ⟨_, rfl⟩
    obtain ⟨f, hf⟩ : ∃ f, f = lay0 L L.area L.b.length := ⟨_, rfl⟩
    have hfl := frameL_len b
    have hXl : X.length = L.b.length + (8 + b.length) - L.b.length / 256 * 256 := by
      rw [hX]
      unfold layB
      rw [List.length_drop, List.length_append, hfl]
    have hns := n_size D h.n4 h.dur.a2
    rw [← h.size] at hns
    have hw := lay_wrote h.alive (f := f) (c := X) (piecesN X) (by rw [hf]; unfold lay0 piecesN; omega)
    have happ : appS D L b = if layE D f X ≠ 0 then (layE D f X, layD D f X, { L with e := layE D f X }) else (0, layD D f X, { L with b := L.b ++ frameL b, rows := L.rows ++ [b] }) := by
      unfold appS
      rw [if_neg (fun hh => hh h.e), if_neg (by omega), if_neg hful, ← hX, ← hf]
    have hharm : ∀ m, ∀ z ∈ layWs f X m, Harm (2 + L.area * L.size) (framL rs) z := by
      intro m
      rw [hf, hX]
      obtain ⟨t, ht⟩ := h.pre
      exact lay_harm (by omega) ⟨framL t ++ frameL b, by rw [h.b, ht, framL_app, List.append_assoc]⟩ m
    have hE : layE D f X = (layP D f X (List.range (piecesN X))).1 := rfl
    have hD : layD D f X = (layP D f X (List.range (piecesN X))).2.1 := rfl
    rw [← hE, ← hD] at hw
    rcases hw.res with ⟨q1, q2, q3⟩ | ⟨q1, q2, q, q3⟩
    · left
      rw [happ, if_neg (fun hh => hh q1)]
      refine ⟨rfl, by omega, ⟨?_, ?_, ?_, ?_, ?_, ?_, h.sure, ?_, ?_, h.e, q2, ?_⟩, rfl, fun hfa => (hw.calm hfa).2, hw.n⟩
      · show L.size = sizeD _
        rw [h.size]
        unfold sizeD
        rw [hw.n]
      · show Dur (layD D f X).good L.size L.turn L.area rs
        rw [hw.good]
        exact h.dur
      · intro z hz
        replace hz : z ∈ (layD D f X).loose := hz
        rw [q3] at hz
        rcases List.mem_append.1 hz with hz | hz
        · exact h.harm z hz
        · exact hharm _ z hz
      · refine lay_read (fr := L.b.length) (D := D) (by rw [List.length_append]; omega) ?_ hw.good ?_
        · rw [List.take_left' rfl]
          exact h.read
        · show (layD D f X).loose = _
          rw [q3, hf, hX]
          rfl
      · show L.b ++ frameL b = framL (L.rows ++ [b])
        rw [framL_snoc, h.b]
      · obtain ⟨t, ht⟩ := h.pre
        exact ⟨t ++ [b], by show L.rows ++ [b] = _; rw [ht, List.append_assoc]⟩
      · intro r hr
        rcases List.mem_append.1 hr with hr | hr
        · exact h.short r hr
        · obtain rfl := List.mem_singleton.1 hr
          exact hb
      · show (L.b ++ frameL b).length ≤ L.size * 256
        rw [List.length_append, hfl]
        omega
      · show 4 ≤ (layD D f X).n
        rw [hw.n]
        exact h.n4
    · right
      right
      rw [happ, if_pos (by omega)]
      refine ⟨q1, by rw [q1], q2, hw.n, fun hfa => by have := (hw.calm hfa).1; omega, fun front => ?_⟩
      show Dur (crashD (layD D f X) front).good L.size L.turn L.area rs
      refine Dur.crashD (by rw [hw.good]; exact h.dur) (fun z hz => ?_) front
      rw [q3] at hz
      rcases List.mem_append.1 hz with hz | hz
      · exact h.harm z hz
      · exact hharm _ z (List.mem_of_mem_take hz)
/-- The disk's sync. -/
theorem sync_two {D : DS} (hd : D.dead = false) : (syncE D = 0 ∧ (syncW D).dead = false ∧ (syncW D).loose = [] ∧ (syncW D).good = syncG D.good D.loose ∧ (D.fails = -1 → (syncW D).fails = -1)) ∨ (syncE D = 30 ∧ (syncW D).dead = true ∧ (syncW D).loose = D.loose ∧ (syncW D).good = D.good ∧ D.fails ≠ -1) := by
  unfold syncE syncW
  rw [hd]
  rcases countE_two D with ⟨h1, h2⟩ | ⟨h1, h2⟩
  · refine .inl ⟨h1, ?_, ?_, ?_, ?_⟩
    · rw [if_neg (by decide), if_pos h1]; exact h2.trans hd
    · rw [if_neg (by decide), if_pos h1]; rfl
    · rw [if_neg (by decide), if_pos h1]
      show syncG (countD D).good (countD D).loose = _
      rw [countD_good, countD_loose]
    · intro hf
      rw [if_neg (by decide), if_pos h1]
      exact (countD_fails hf).2.1
  · refine .inr ⟨h1, ?_, ?_, ?_, ?_⟩
    · rw [if_neg (by decide), if_neg (by omega)]; exact h2
    · rw [if_neg (by decide), if_neg (by omega)]; exact countD_loose D
    · rw [if_neg (by decide), if_neg (by omega)]; exact countD_good D
    · intro hf
      have := (countD_fails hf).1
      omega
/-- A disk of which nothing is loose: the next super is laid, and synced. -/
theorem commit {D : DS} {size T a a' : Nat} {rs rs' : List (List UInt8)} (hl : D.loose = []) (hd : D.dead = false) (hn : 4 ≤ D.n) (h : Dur D.good size T a rs) (ha : a' < 2) (hag : Ag (gz D.good) (2 + a' * size) (framL rs')) (hf : (framL rs').length ≤ size * 256) (hsh : ∀ r ∈ rs', r.length ≤ 16384) (hT : T + 1 < 255)
    {R : Int × DS} (hR : R = runS [markS (T + 1) a' (framL rs').length, dsynS] D) :
    (R.1 = 0 ∧ R.2.dead = false ∧ R.2.loose = [] ∧ R.2.n = D.n ∧ Dur R.2.good size (T + 1) a' rs' ∧ (D.fails = -1 → R.2.fails = -1)) ∨
    (R.1 = 30 ∧ R.2.dead = true ∧ R.2.n = D.n ∧ D.fails ≠ -1 ∧ ∀ front, Dur (crashD R.2 front).good size T a rs ∨ Dur (crashD R.2 front).good size (T + 1) a' rs') := by
  have hi : thereB D (((T + 1) % 2 : Nat) : Int) = true := by
    unfold thereB
    rw [decide_eq_true (by omega), decide_eq_true (by omega)]
    rfl
  have hw := write_one hd hi (superL_256 (T + 1) a' (framL rs').length)
  obtain ⟨D2, hD2⟩ : ∃ D2, D2 = writeD D (((T + 1) % 2 : Nat) : Int) (superL (T + 1) a' (framL rs').length) := ⟨_, rfl⟩
  obtain ⟨e2, he2⟩ : ∃ e2, e2 = writeE D (((T + 1) % 2 : Nat) : Int) (superL (T + 1) a' (framL rs').length) := ⟨_, rfl⟩
  rw [← hD2, ← he2] at hw
  have hR2 : R = if e2 = 0 then runS [dsynS] D2 else (e2, D2) := by
    rw [hR]
    show (if (markS (T + 1) a' (framL rs').length D).1 = 0 then runS [dsynS] (markS (T + 1) a' (framL rs').length D).2 else markS (T + 1) a' (framL rs').length D) = _
    unfold markS
    rw [← hD2, ← he2]
  rcases hw.res with ⟨q1, q2, q3⟩ | ⟨q1, q2, q, q3⟩
  · rw [if_pos q1, runS_one] at hR2
    have hl2 : D2.loose = [((((T + 1) % 2 : Nat) : Int), superL (T + 1) a' (framL rs').length)] := by rw [q3, hl]; rfl
    rcases sync_two q2 with ⟨r1, r2, r3, r4, r5⟩ | ⟨r1, r2, r3, r4, r5⟩
    · left
      rw [hR2]
      refine ⟨r1, r2, r3, (syncW_n D2).trans hw.n, ?_, fun hfa => r5 (hw.calm hfa).2⟩
      show Dur (syncW D2).good size (T + 1) a' rs'
      rw [r4, hl2, hw.good]
      exact h.next ha hag hf hsh hT
    · right
      rw [hR2]
      refine ⟨r1, r2, (syncW_n D2).trans hw.n, fun hfa => r5 (hw.calm hfa).2, fun front => ?_⟩
      show Dur (crashG (syncW D2).good ((syncW D2).loose.zip front)) size T a rs ∨ Dur (crashG (syncW D2).good ((syncW D2).loose.zip front)) size (T + 1) a' rs'
      rw [r3, r4, hl2, hw.good]
      cases front with
      | nil => exact .inl h
      | cons y ys => exact h.torn ha hag hf hsh hT (frontN_le y)
  · right
    rw [if_neg (by omega)] at hR2
    rw [hR2]
    refine ⟨q1, q2, hw.n, fun hfa => by have := (hw.calm hfa).1; omega, fun front => ?_⟩
    have hts : D2.loose = [] ∨ D2.loose = [((((T + 1) % 2 : Nat) : Int), superL (T + 1) a' (framL rs').length)] := by
      rw [q3, hl]
      cases q with
      | zero => exact .inl rfl
      | succ q => exact .inr (by simp)
    show Dur (crashG D2.good (D2.loose.zip front)) size T a rs ∨ Dur (crashG D2.good (D2.loose.zip front)) size (T + 1) a' rs'
    rw [hw.good]
    rcases hts with hts | hts
    · rw [hts]
      exact .inl h
    · rw [hts]
      cases front with
      | nil => exact .inl h
      | cons y ys => exact h.torn ha hag hf hsh hT (frontN_le y)
theorem syncG_rd (i : Int) : ∀ (ls : List (Int × List UInt8)) (f : Int → Option (List UInt8)), gz (syncG f ls) i = readL i ls (gz f i)
  | [], _ => rfl
  | x :: ls, f => by
    show gz (syncG (putG f x.1 x.2) ls) i = readL i ls (if x.1 = i then x.2 else gz f i)
    rw [syncG_rd i ls, gz_put]
    congr 1
    by_cases h : i = x.1
    · rw [if_pos h, if_pos h.symm]
    · rw [if_neg h, if_neg (fun e => h e.symm)]
/-- What Sync does. -/
theorem syn_inv {D : DS} {L : LS} {rs : List (List UInt8)} (h : LInv D L rs) (hT : L.turn + 1 < 255) :
    ((synS D L).1 = 0 ∧ LInv (synS D L).2.1 (synS D L).2.2 L.rows ∧ (synS D L).2.2.rows = L.rows ∧ (synS D L).2.2.b = L.b ∧ (synS D L).2.2.size = L.size ∧ (synS D L).2.2.turn ≤ L.turn + 1 ∧ (D.fails = -1 → (synS D L).2.1.fails = -1) ∧ (synS D L).2.1.n = D.n) ∨
    ((synS D L).1 = 30 ∧ (synS D L).2.2 = { L with e := 30 } ∧ (synS D L).2.1.dead = true ∧ (synS D L).2.1.n = D.n ∧ D.fails ≠ -1 ∧ ∀ front, Dur (crashD (synS D L).2.1 front).good L.size L.turn L.area rs ∨ Dur (crashD (synS D L).2.1 front).good L.size (L.turn + 1) L.area L.rows) := by
  by_cases hs : L.sure = L.rows.length
  · have e : synS D L = (0, D, L) := by unfold synS; rw [if_pos (.inr hs), h.e]
    have hrs : L.rows = rs := by
      obtain ⟨t, ht⟩ := h.pre
      have h1 := h.sure
      rw [hs, ht, List.length_append] at h1
      have : t = [] := List.eq_nil_of_length_eq_zero (by omega)
      rw [ht, this, List.append_nil]
    rw [e]
    exact .inl ⟨rfl, by rw [hrs]; exact h, rfl, rfl, rfl, by show L.turn ≤ _; omega, fun hf => hf, rfl⟩
  · obtain ⟨R, hR⟩ : ∃ R, R = runS [dsynS, markS (L.turn + 1) L.area L.b.length, dsynS] D := ⟨_, rfl⟩
    have e : synS D L = if R.1 ≠ 0 then (R.1, R.2, { L with e := R.1 }) else (0, R.2, { L with turn := L.turn + 1, sure := L.rows.length }) := by
      unfold synS
      rw [if_neg (by rintro (h1 | h1); exact h1 h.e; exact hs h1), ← hR]
    have hR2 : R = if syncE D = 0 then runS [markS (L.turn + 1) L.area L.b.length, dsynS] (syncW D) else (syncE D, syncW D) := by
      rw [hR]
      rfl
    rcases sync_two h.alive with ⟨r1, r2, r3, r4, r5⟩ | ⟨r1, r2, r3, r4, r5⟩
    · rw [if_pos r1] at hR2
      have hdur : Dur (syncW D).good L.size L.turn L.area rs := by rw [r4]; exact h.dur.sync _ _ h.harm
      have hag : Ag (gz (syncW D).good) (2 + L.area * L.size) (framL L.rows) := by
        intro p hp
        have hpb : p < L.b.length := by rw [h.b]; exact hp
        have := h.read p hpb
        rw [r4]
        have e2 : gz (syncG D.good D.loose) ((2 + L.area * L.size + p / 256 : Nat) : Int) = readAt D ((2 + L.area * L.size + p / 256 : Nat) : Int) := syncG_rd _ D.loose D.good
        rw [e2, this]
        congr 1
        simp only [h.b]
      rw [h.b] at hR2
      rcases commit r3 r2 (by rw [syncW_n]; exact h.n4) hdur h.dur.a2 hag (by rw [← h.b]; exact h.fit) h.short hT hR2 with ⟨c1, c2, c3, c4, c5, c6⟩ | ⟨c1, c2, c3, c4, c5⟩
      · left
        rw [e, if_neg (fun hh => hh c1)]
        refine ⟨rfl, ⟨?_, c5, ?_, ?_, h.b, ⟨[], (List.append_nil _).symm⟩, rfl, h.short, h.fit, h.e, c2, ?_⟩, rfl, rfl, rfl, Nat.le_refl _, fun hf => c6 (r5 hf), c4.trans (syncW_n D)⟩
        · show L.size = sizeD R.2
          rw [h.size]
          unfold sizeD
          rw [c4, syncW_n]
        · intro z hz
          replace hz : z ∈ R.2.loose := hz
          rw [c3] at hz
          cases hz
        · show Ag (readAt R.2) (2 + L.area * L.size) L.b
          intro p hp
          rw [readAt_good c3]
          have := c5.ag p (by rw [← h.b]; exact hp)
          rw [this]
          congr 1
          simp only [h.b]
        · show 4 ≤ R.2.n
          rw [c4, syncW_n]
          exact h.n4
      · right
        rw [e, if_pos (by omega)]
        refine ⟨c1, by rw [c1], c2, c3.trans (syncW_n D), fun hf => c4 (r5 hf), fun front => c5 front⟩
    · right
      rw [if_neg (by omega)] at hR2
      rw [e, hR2, if_pos (by show syncE D ≠ 0; omega)]
      refine ⟨r1, by rw [r1], r2, syncW_n D, r5, fun front => .inl ?_⟩
      exact Dur.crashD (by show Dur (syncW D).good _ _ _ _; rw [r4]; exact h.dur) (fun z hz => by rw [show (syncE D, syncW D).2.loose = D.loose from r3] at hz; exact h.harm z hz) front
/-- What Compact does. -/
theorem cmp_inv {D : DS} {L : LS} {rs : List (List UInt8)} (h : LInv D L rs) (hT : L.turn + 1 < 255) {rs' : List (List UInt8)} (hsh : ∀ r ∈ rs', r.length ≤ 16384) :
    ((cmpS D L rs').1 = 0 ∧ (framL rs').length ≤ L.size * 256 ∧ LInv (cmpS D L rs').2.1 (cmpS D L rs').2.2 rs' ∧ (cmpS D L rs').2.2 = { L with turn := L.turn + 1, area := 1 - L.area, b := framL rs', rows := rs', sure := rs'.length } ∧ (D.fails = -1 → (cmpS D L rs').2.1.fails = -1) ∧ (cmpS D L rs').2.1.n = D.n) ∨
    ((cmpS D L rs').1 = 31 ∧ L.size * 256 < (framL rs').length ∧ (cmpS D L rs').2 = (D, L)) ∨
    ((cmpS D L rs').1 = 30 ∧ (cmpS D L rs').2.2 = { L with e := 30 } ∧ (cmpS D L rs').2.1.dead = true ∧ (cmpS D L rs').2.1.n = D.n ∧ D.fails ≠ -1 ∧ ∀ front, Dur (crashD (cmpS D L rs').2.1 front).good L.size L.turn L.area rs ∨ Dur (crashD (cmpS D L rs').2.1 front).good L.size (L.turn + 1) (1 - L.area) rs') := by
  have hbig : ¬ ∃ r ∈ rs', 16384 < r.length := by
    rintro ⟨r, h1, h2⟩
    have := hsh r h1
    omega
  by_cases hful : L.size * 256 < (framL rs').length
  · have e : cmpS D L rs' = (31, D, L) := by unfold cmpS; rw [if_neg (fun hh => hh h.e), if_neg hbig, if_pos hful]
    rw [e]
    exact .inr (.inl ⟨rfl, hful, rfl⟩)
  · obtain ⟨R, hR⟩ : ∃ R, R = cmpR L rs' D := ⟨_, rfl⟩
    have e : cmpS D L rs' = if R.1 ≠ 0 then (R.1, R.2, { L with e := R.1 }) else (0, R.2, { L with turn := L.turn + 1, area := 1 - L.area, b := framL rs', rows := rs', sure := rs'.length }) := by
      unfold cmpS
      rw [if_neg (fun hh => hh h.e), if_neg hbig, if_neg hful, ← hR]
    obtain ⟨o, ho⟩ : ∃ o, o = 1 - L.area := ⟨_, rfl⟩
    have ha2 := h.dur.a2
    have ho2 : o < 2 := by omega
    have hoa : o ≠ L.area := by omega
    obtain ⟨f, hf⟩ : ∃ f, f = lay0 L o 0 := ⟨_, rfl⟩
    have hf2 : f = 2 + o * L.size := by rw [hf]; unfold lay0; omega
    obtain ⟨X, hX⟩ : ∃ X, X = layB (framL rs') 0 := ⟨_, rfl⟩
    have hX2 : X = framL rs' := by rw [hX]; unfold layB; simp
    have hns := n_size D h.n4 ho2
    rw [← h.size] at hns
    have hm : piecesN X ≤ L.size := by unfold piecesN; rw [hX2]; omega
    have hw := lay_wrote h.alive (f := f) (c := X) (piecesN X) (by omega)
    have hE : layE D f X = (layP D f X (List.range (piecesN X))).1 := rfl
    have hD : layD D f X = (layP D f X (List.range (piecesN X))).2.1 := rfl
    rw [← hE, ← hD] at hw
    have hR2 : R = if layE D f X = 0 then (if syncE (layD D f X) = 0 then runS [markS (L.turn + 1) o (framL rs').length, dsynS] (syncW (layD D f X)) else (syncE (layD D f X), syncW (layD D f X))) else (layE D f X, layD D f X) := by
      rw [hR]
      unfold cmpR
      rw [← ho, ← hf, ← hX]
      rfl
    rw [← ho] at e ⊢
    have hharm : ∀ m, m ≤ L.size → ∀ z ∈ layWs f X m, Harm (2 + L.area * L.size) (framL rs) z := by
      intro m hmL z hz
      obtain ⟨j, hj, rfl⟩ := List.mem_map.1 hz
      have hj2 := List.mem_range.1 hj
      refine ⟨blkC_len _ _, by show (2 : Int) ≤ ((f + j : Nat) : Int); omega, fun p hp he => ?_⟩
      exfalso
      have he2 : f + j = 2 + L.area * L.size + p / 256 := by
        have : ((f + j : Nat) : Int) = ((2 + L.area * L.size + p / 256 : Nat) : Int) := he
        omega
      have hfit := h.dur.fits
      have hp2 : p / 256 < L.size := by omega
      rw [hf2] at he2
      have h01 : (o = 0 ∧ L.area = 1) ∨ (o = 1 ∧ L.area = 0) := by omega
      rcases h01 with ⟨h1, h2⟩ | ⟨h1, h2⟩
      · rw [h1, h2] at he2
        omega
      · rw [h1, h2] at he2
        omega
    rcases hw.res with ⟨q1, q2, q3⟩ | ⟨q1, q2, q, q3⟩
    · rw [if_pos q1] at hR2
      have hdl : ∀ z ∈ (layD D f X).loose, Harm (2 + L.area * L.size) (framL rs) z := by
        intro z hz
        rw [q3] at hz
        rcases List.mem_append.1 hz with hz | hz
        · exact h.harm z hz
        · exact hharm _ hm z hz
      have hdg : Dur (layD D f X).good L.size L.turn L.area rs := by rw [hw.good]; exact h.dur
      rcases sync_two q2 with ⟨r1, r2, r3, r4, r5⟩ | ⟨r1, r2, r3, r4, r5⟩
      · rw [if_pos r1] at hR2
        have hdur : Dur (syncW (layD D f X)).good L.size L.turn L.area rs := by rw [r4]; exact hdg.sync _ _ hdl
        have hread : Ag (readAt (layD D f X)) (2 + o * L.size) (framL rs') := by
          refine lay_read (fr := 0) (D := D) (Nat.zero_le _) (fun p hp => by simp at hp) hw.good ?_
          rw [q3, hX, hf]
          rfl
        have hag : Ag (gz (syncW (layD D f X)).good) (2 + o * L.size) (framL rs') := by
          intro p hp
          rw [r4]
          have e2 : gz (syncG (layD D f X).good (layD D f X).loose) ((2 + o * L.size + p / 256 : Nat) : Int) = readAt (layD D f X) ((2 + o * L.size + p / 256 : Nat) : Int) := syncG_rd _ _ _
          rw [e2]
          exact hread p hp
        rcases commit r3 r2 (by rw [syncW_n, hw.n]; exact h.n4) hdur ho2 hag (by omega) hsh hT hR2 with ⟨c1, c2, c3, c4, c5, c6⟩ | ⟨c1, c2, c3, c4, c5⟩
        · left
          rw [e, if_neg (fun hh => hh c1)]
          refine ⟨rfl, by omega, ⟨?_, c5, ?_, ?_, rfl, ⟨[], (List.append_nil _).symm⟩, rfl, hsh, by show (framL rs').length ≤ L.size * 256; omega, h.e, c2, ?_⟩, rfl, fun hfa => c6 (r5 (hw.calm hfa).2), c4.trans ((syncW_n _).trans hw.n)⟩
          · show L.size = sizeD R.2
            rw [h.size]
            unfold sizeD
            rw [c4, syncW_n, hw.n]
          · intro z hz
            replace hz : z ∈ R.2.loose := hz
            rw [c3] at hz
            cases hz
          · show Ag (readAt R.2) (2 + o * L.size) (framL rs')
            intro p hp
            rw [readAt_good c3]
            exact c5.ag p hp
          · show 4 ≤ R.2.n
            rw [c4, syncW_n, hw.n]
            exact h.n4
        · right
          right
          rw [e, if_pos (by omega)]
          exact ⟨c1, by rw [c1], c2, c3.trans ((syncW_n _).trans hw.n), fun hfa => c4 (r5 (hw.calm hfa).2), fun front => c5 front⟩
      · right
        right
        rw [if_neg (by omega)] at hR2
        rw [e, hR2, if_pos (by show syncE (layD D f X) ≠ 0; omega)]
        refine ⟨r1, by rw [r1], r2, (syncW_n _).trans hw.n, fun hfa => r5 (hw.calm hfa).2, fun front => .inl ?_⟩
        exact Dur.crashD (by show Dur (syncW (layD D f X)).good _ _ _ _; rw [r4]; exact hdg) (fun z hz => by rw [show (syncE (layD D f X), syncW (layD D f X)).2.loose = (layD D f X).loose from r3] at hz; exact hdl z hz) front
    · right
      right
      rw [if_neg (by omega)] at hR2
      rw [e, hR2, if_pos (by show layE D f X ≠ 0; omega)]
      refine ⟨q1, by rw [q1], q2, hw.n, fun hfa => by have := (hw.calm hfa).1; omega, fun front => .inl ?_⟩
      refine Dur.crashD (by show Dur (layD D f X).good _ _ _ _; rw [hw.good]; exact h.dur) (fun z hz => ?_) front
      replace hz : z ∈ (layD D f X).loose := hz
      rw [q3] at hz
      rcases List.mem_append.1 hz with hz | hz
      · exact h.harm z hz
      · exact hharm _ hm z (List.mem_of_mem_take hz)
end Go.Proofs.Ytlpdiamgpnmeoaa
