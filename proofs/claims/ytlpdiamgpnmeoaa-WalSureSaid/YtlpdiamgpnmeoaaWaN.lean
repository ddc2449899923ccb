
/- Records: steps done until one has an error. -/
import Derived.Test.YtlpdiamgpnmeoaaWaM
namespace Go.Proofs.Ytlpdiamgpnmeoaa
open Go.RowKit
set_option linter.unusedVariables false
/-- The kinds that a log's calls turn. -/
abbrev exL : List Nat := [tDisk, tLoose, tLog]
theorem IsDisk.put_int {w w1 : World} {B g g' t' : Nat} {D : DS} {c0 c1 : Array Value} (h : IsDisk w B g D) (hb : Blk w g' t' c0) (hp : Put w w1 g' t' c1) (h1 : t' ≠ tDisk) (h2 : t' ≠ tLoose) : IsDisk w1 B g D := by
  obtain ⟨m, A, c, h⟩ := h
  exact ⟨m, A, c, h.put_int hb hp h1 h2⟩
theorem IsLog.dfr {w w' : World} {B gl g : Nat} {D D' : DS} {L : LS} {vb vr : Value} {vs : List Value} (h : IsLog w B gl g D L vb vr vs) (hd : IsDisk w' B g D') (hf : DFr B w w') (hn : D'.n = D.n) : IsLog w' B gl g D' L vb vr vs := by
  have hx : XFr [tDisk, tLoose] B w w' := XFr.of_dfr hf (by simp) (by simp)
  exact ⟨hd, hf.keep gl _ _ _ h.blk (by decide) (by decide), h.by_.xfr hx (by decide), h.rows.xfr hx (by decide) (by decide), h.gB, by rw [h.size]; unfold sizeD; rw [hn], h.turn, h.area, h.len, h.sure, h.many, h.short⟩
theorem IsLog.below {w w' : World} {B gl g : Nat} {D : DS} {L : LS} {vb vr : Value} {vs : List Value} (h : IsLog w B gl g D L vb vr vs) (hb : Below w.heap.size w w') (hB : B ≤ w.heap.size) : IsLog w' B gl g D L vb vr vs := h.dfr (h.disk.below hb) (DFr.of_below hb hB) rfl
theorem IsLog.setE {w w' : World} {B gl g : Nat} {D : DS} {L : LS} {vb vr : Value} {vs : List Value} (h : IsLog w B gl g D L vb vr vs) (e : Int) (hp : Put w w' gl tLog (logc g { L with e := e } vb vr)) : IsLog w' B gl g D { L with e := e } vb vr vs := by
  have hx : XFr [tLog] B w w' := XFr.of_put h.blk hp h.gB (by simp)
  exact ⟨h.disk.put_int h.blk hp (by decide) (by decide), hp.blk, h.by_.xfr hx (by decide), h.rows.xfr hx (by decide) (by decide), h.gB, h.size, h.turn, h.area, h.len, h.sure, h.many, h.short⟩
theorem XFr.of_dfrL {B : Nat} {w w' : World} (h : DFr B w w') : XFr exL B w w' := XFr.of_dfr h (by simp) (by simp)
/-- Steps, until one has an error. -/
def runS : List (DS → Int × DS) → DS → Int × DS
  | [], D => (0, D)
  | s :: ss, D => if (s D).1 = 0 then runS ss (s D).2 else s D
theorem runS_snoc : ∀ (ss : List (DS → Int × DS)) (s : DS → Int × DS) (D : DS), runS (ss ++ [s]) D = if (runS ss D).1 = 0 then s (runS ss D).2 else runS ss D
  | [], s, D => by
    show (if (s D).1 = 0 then (0, (s D).2) else s D) = if (0 : Int) = 0 then s D else _
    rw [if_pos rfl]
    split
    · rename_i h
      rw [← h]
    · rfl
  | t :: ss, s, D => by
    show (if (t D).1 = 0 then runS (ss ++ [s]) (t D).2 else t D) = _
    rw [show runS (t :: ss) D = if (t D).1 = 0 then runS ss (t D).2 else t D from rfl]
    by_cases h : (t D).1 = 0
    · rw [if_pos h, if_pos h, runS_snoc ss s (t D).2]
    · rw [if_neg h, if_neg h, if_neg h]
/-- One closure does one step. -/
def StepAt (w : World) (B gl g : Nat) (L : LS) (vb vr : Value) (vs : List Value) (n : Nat) (fv : Value) (s : DS → Int × DS) (D' : DS) : Prop :=
  ∃ (f : Nat) (bnd cap : Array Value), fv = .func (.func f) bnd cap ∧ (∀ args w, (callFunc f args).run Try.prog w = .ok (.enter f args) w) ∧ ∀ W, XFr exL B w W → IsLog W B gl g D' L vb vr vs →
    Calls Try.prog f (bnd ++ cap) W fun e W' => e = .returned (.int .i64 (s D').1) ∧ IsDisk W' B g (s D').2 ∧ (s D').2.n = n ∧ DFr B W W'
theorem gives_callv {o : Oper} {a : Act} {w : World} {S : Value → World → Prop} {x : Operand} (ho : o.op = .call { callee := .value x, args := #[], argTypes := #[] }) {f : Nat} {bnd cap : Array Value} (hx : a.eval x = .func (.func f) bnd cap) (eg : ∀ args w, (callFunc f args).run Try.prog w = .ok (.enter f args) w)
    (h : Calls Try.prog f (bnd ++ cap) w fun e w' => ∃ v, e = .returned v ∧ S v w') : gives Try.prog o a w S := by
  refine gives_call (f := f) (args := bnd ++ cap) (w' := w) ?_ h
  unfold execOp
  rw [ho]
  simp only [resolve, hx]
  simp [go_sem, invoke, eg]
set_option maxRecDepth 100000 in
set_option maxHeartbeats 1000000 in
theorem all_any (w : World) {B gl g : Nat} {D : DS} {L : LS} {vb vr : Value} {vs : List Value} (h : IsLog w B gl g D L vb vr vs) (he : L.e = 0) {A : Option Addr} {c : Nat} {fvs : List Value} (hr : ∀ W, XFr exL B w W → Rd W W.heap.size A fvs)
    (ss : List (DS → Int × DS)) (hl : fvs.length = ss.length) (hn4 : ss.length ≤ 4) (hst : ∀ (i : Nat) (fv : Value) (s : DS → Int × DS), fvs[i]? = some fv → ss[i]? = some s → (runS (ss.take i) D).1 = 0 → StepAt w B gl g L vb vr vs D.n fv s (runS (ss.take i) D).2) :
    Calls Try.prog 32 #[.pointer (some ⟨gl, 0, none⟩), .slice A ss.length c] w fun e w' => e = .returned (.int .i64 (runS ss D).1) ∧ IsLog w' B gl g (runS ss D).2 { L with e := (runS ss D).1 } vb vr vs ∧ XFr exL B w w' := by
  obtain ⟨n, hn⟩ : ∃ n, n = ss.length := ⟨_, rfl⟩
  rw [← hn] at hn4 ⊢
  have HST := hid hst
  have HR := hid hr
  have HL := hid h
  have HN := hid hn
  have HE := hid he
  have HFL := hid hl
  clear hst hr h hn he hl
  go_enter Try.func32, Try.ntmps32
  go_wp2_with fail
  go_loopw [6, 9, 10, 11, 12, 13, 14, 15, 16, 17, 18, 19, 20, 21, 22, 23] (fun _ v9 _ _ _ _ _ _ _ _ _ _ _ _ _ _ wr => ∃ i : Nat, i ≤ n ∧ v9 = .int .i64 (i : Int) ∧ IsLog wr B gl g (runS (ss.take i) D).2 { L with e := (runS (ss.take i) D).1 } vb vr vs ∧ (runS (ss.take i) D).2.n = D.n ∧ XFr exL B w wr) (fun _ v9 _ _ _ _ _ _ _ _ _ _ _ _ _ _ _ => 5 - (ofInt v9).toNat)
  case atStart =>
    refine ⟨0, Nat.zero_le _, rfl, ?_, rfl, XFr.refl _ _ _⟩
    have : ({ L with e := 0 } : LS) = L := by rw [← HE.out]
    show IsLog w B gl g D { L with e := 0 } vb vr vs
    rw [this]
    exact HL.out
  case round =>
    obtain ⟨i, hi, rfl, hlog, hnn, hxf⟩ := hrel
    rename World => wr
    obtain ⟨R, hR⟩ : ∃ R, R = runS (ss.take i) D := ⟨_, rfl⟩
    rw [← hR] at hlog hnn
    obtain ⟨ei, Di⟩ := R
    have hlog : IsLog wr B gl g Di { L with e := ei } vb vr vs := hlog
    have hnn : Di.n = D.n := hnn
    have c7 : wr.cell? ⟨gl, 7, none⟩ = some (.int .i64 ei) := hlog.blk.cell 7
    have lgl := hlog.blk.lt
    by_cases hlt : i < n
    · have hlti : (i : Int) < (n : Int) := by omega
      obtain ⟨gb, off, rfl, hgb, hcell⟩ := (HR.out wr hxf).at_ (k := i) (by rw [HFL.out, ← HN.out]; exact hlt)
      obtain ⟨fv, hfv⟩ : ∃ fv, fvs[i]? = some fv := ⟨_, List.getElem?_eq_getElem (by rw [HFL.out, ← HN.out]; exact hlt)⟩
      obtain ⟨s, hs⟩ : ∃ s, ss[i]? = some s := ⟨_, List.getElem?_eq_getElem (by rw [← HN.out]; exact hlt)⟩
      have hck : wr.cell? ⟨gb, off + i, none⟩ = some fv := hcell i _ hfv
      have hsn : runS (ss.take (i + 1)) D = if ei = 0 then s Di else (ei, Di) := by
        rw [List.take_add_one, hs, show (some s).toList = [s] from rfl, runS_snoc, ← hR]
      by_cases h0 : ei = 0
      · rw [if_pos h0] at hsn
        obtain ⟨f, bnd, cap, rfl, eg, hcall⟩ := HST.out i fv s hfv hs (by rw [← hR]; exact h0)
        have hL0 : ({ L with e := ei } : LS) = L := by rw [h0, ← HE.out]
        rw [hL0] at hlog
        rw [← hR] at hcall
        have hca := hcall wr hxf hlog
        subst h0
        have hrest : ∀ w2, XFr exL B w w2 → IsLog w2 B gl g (s Di).2 { L with e := (s Di).1 } vb vr vs → (s Di).2.n = D.n → ∃ i', i' ≤ n ∧ Value.int IntKind.i64 ((i : Int) + 1) = .int .i64 (i' : Int) ∧ IsLog w2 B gl g (runS (ss.take i') D).2 { L with e := (runS (ss.take i') D).1 } vb vr vs ∧ (runS (ss.take i') D).2.n = D.n ∧ XFr exL B w w2 := by
          intro w2 h1 h2 h3
          exact ⟨i + 1, hlt, by push_cast; rfl, by rw [hsn]; exact h2, by rw [hsn]; exact h3, h1⟩
        have HRS := hid hrest
        have HCA := hid hca
        have HXF := hid hxf
        have HLG := hid hlog
        have HEG := hid eg
        have HNN := hid hnn
        clear hrest hca hsn hcall hcell hfv hs hR hnn hxf hlog hlt eg
        go_wp2_with (first
          | ((with_reducible refine wpAtC ?_); refine wpList_gives rfl (gives_callv (S := fun v w' => v = .int .i64 (s Di).1 ∧ IsDisk w' B g (s Di).2 ∧ (s Di).2.n = D.n ∧ DFr B wr w') rfl rfl HEG.out (HCA.out.mono fun e w' ⟨h1, h2, h3, h4⟩ => ⟨_, h1, rfl, h2, h3, h4⟩)) ?_; rintro v w2 ⟨rfl, hd2, hn2, hf2⟩; have hlg2 := HLG.out.dfr hd2 hf2 (hn2.trans HNN.out.symm); have hblk2 := hlg2.blk; simp only [Act.put, List.setIfInBounds_toArray, List.set_cons_succ, List.set_cons_zero])
          | ((with_reducible refine wpAtC ?_); refine wpList_store1 rfl 27 _ _ rfl gl 7 rfl _ rfl sz27 rfl hblk2 (show 7 < 8 by omega) ?_; intro w3 hp3; simp only [Act.put]))
        refine ⟨HRS.out w3 ((HXF.out.trans (XFr.of_dfrL hf2)).trans (XFr.of_put hblk2 hp3 HLG.out.gB (by simp))) (hlg2.setE _ hp3) hn2, ?_⟩
        show 5 - ((i : Int) + 1).toNat < 5 - (i : Int).toNat
        omega
      · rw [if_neg h0] at hsn
        have e1 : (ei == 0) = false := by simpa using h0
        have hrest : ∃ i', i' ≤ n ∧ Value.int IntKind.i64 ((i : Int) + 1) = .int .i64 (i' : Int) ∧ IsLog wr B gl g (runS (ss.take i') D).2 { L with e := (runS (ss.take i') D).1 } vb vr vs ∧ (runS (ss.take i') D).2.n = D.n ∧ XFr exL B w wr := ⟨i + 1, hlt, by push_cast; rfl, by rw [hsn]; exact hlog, by rw [hsn]; exact hnn, hxf⟩
        have HRS := hid hrest
        clear hrest h0 hsn hcell hfv hs hR hnn hxf hlog hlt
        go_wp2_with fail
        refine ⟨HRS.out, ?_⟩
        show 5 - ((i : Int) + 1).toNat < 5 - (i : Int).toNat
        omega
    · have hin : i = n := by omega
      subst hin
      rw [HN.out, List.take_length] at hR
      have HRR := hid hR
      have HLG := hid hlog
      clear hR hlog hlt hnn
      go_wp2_with fail
      refine bodyPost_ret (results_tmp rfl _ _ _) rfl ?_
      rw [← HRR.out]
      exact ⟨rfl, HLG.out, hxf⟩
end Go.Proofs.Ytlpdiamgpnmeoaa
