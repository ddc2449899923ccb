
/- Rows of hashes and of keys: what they read as, and their types. -/
import Derived.Test.YthbmmilefimpaaaMapK
import Derived.Test.YthbmmilefimpaaaOwn
import Derived.Test.YthbmmilefimpaaaOctF
namespace Go.Proofs.Ythbmmilefimpaaa
open Go.RowKit Go.Maps
set_option linter.unusedVariables false
/-- A head's key: how many entries, and their root. -/
abbrev Key := Nat × List UInt8
def kc (k : Key) : List Value := .int .u64 (k.1 : Int) :: k.2.map cb
def hc (h : List UInt8) : List Value := h.map cb
def kOk (k : Key) : Prop := k.1 < 18446744073709551616 ∧ k.2.length = 32
def hOk (h : List UInt8) : Prop := h.length = 32
theorem kc_len {k : Key} (h : kOk k) : (kc k).length = 33 := by simp [kc, h.2]
theorem hc_len {k : List UInt8} (h : hOk k) : (hc k).length = 32 := by rw [hc, List.length_map]; exact h
theorem kc_one (k : Key) : ∀ u ∈ kc k, u.oneCell' = true := by
  intro u hu
  rcases List.mem_cons.1 hu with rfl | hu
  · rfl
  · exact one_cb _ u hu
theorem hc_one (k : List UInt8) : ∀ u ∈ hc k, u.oneCell' = true := one_cb k
theorem cb_inj : ∀ {l m : List UInt8}, l.map cb = m.map cb → l = m
  | [], [], _ => rfl
  | [], _ :: _, h => by simp at h
  | _ :: _, [], h => by simp at h
  | x :: l, y :: m, h => by
    simp only [List.map_cons, List.cons.injEq] at h
    have h1 : x = y := by
      have := h.1
      simp only [cb, Value.int.injEq, true_and, Int.natCast_inj] at this
      exact UInt8.toNat_inj.1 this
    rw [h1, cb_inj h.2]
theorem hc_inj {a b : List UInt8} (h : hc a = hc b) : a = b := cb_inj h
theorem kc_inj {a b : Key} (h : kc a = kc b) : a = b := by
  simp only [kc, List.cons.injEq, Value.int.injEq, true_and, Int.natCast_inj] at h
  exact Prod.ext h.1 (cb_inj h.2)
/-- Rows of so many cells on end. -/
theorem flatZ_len {z : Nat} : ∀ (ls : List (List Value)), (∀ l ∈ ls, l.length = z) → ls.flatten.length = ls.length * z
  | [], _ => by simp
  | l :: r, h => by
    rw [List.flatten_cons, List.length_append, flatZ_len r fun x hx => h x (List.mem_cons_of_mem _ hx), h l List.mem_cons_self, List.length_cons, Nat.add_mul]
    omega
theorem flatZ_drop {z : Nat} : ∀ (ls : List (List Value)), (∀ l ∈ ls, l.length = z) → ∀ i, ls.flatten.drop (i * z) = (ls.drop i).flatten
  | ls, _, 0 => by simp
  | [], _, i + 1 => by simp
  | l :: r, h, i + 1 => by
    have h0 := h l List.mem_cons_self
    rw [List.flatten_cons, Nat.add_mul, Nat.one_mul, Nat.add_comm, ← List.drop_drop, ← h0, List.drop_left, h0]
    exact flatZ_drop r (fun x hx => h x (List.mem_cons_of_mem _ hx)) i
theorem flatZ_get {z : Nat} (ls : List (List Value)) (h : ∀ l ∈ ls, l.length = z) (i j : Nat) (hi : i < ls.length) (hj : j < z) : ls.flatten[i * z + j]? = ls[i][j]? := by
  rw [← List.getElem?_drop, flatZ_drop ls h i, List.drop_eq_getElem_cons hi, List.flatten_cons, List.getElem?_append_left (by rw [h _ (List.getElem_mem hi)]; exact hj)]
theorem rd_item {z : Nat} {w : World} {B : Nat} {A : Option Addr} {ls : List (List Value)} (h : Rd w B A ls.flatten) (hz : ∀ l ∈ ls, l.length = z) (hp : 0 < z) {i : Nat} (hi : i < ls.length) :
    ∃ b off, A = some ⟨b, off, none⟩ ∧ b < B ∧ ∀ j v, ls[i][j]? = some v → w.cell? ⟨b, off + i * z + j, none⟩ = some v := by
  have hlt : i * z < ls.flatten.length := by
    rw [flatZ_len ls hz]
    exact Nat.mul_lt_mul_of_pos_right hi hp
  obtain ⟨b, off, he, hb, hd⟩ := h.at_ (k := i * z) hlt
  refine ⟨b, off, he, hb, fun j v hv => ?_⟩
  have hj : j < z := by
    have := (List.getElem?_eq_some_iff.1 hv).1
    rw [hz _ (List.getElem_mem hi)] at this
    exact this
  rw [Nat.add_assoc]
  apply hd
  rw [flatZ_get ls hz i j hi hj]
  exact hv
theorem rd_dropZ {z : Nat} {w : World} {B b off : Nat} {ls : List (List Value)} (h : Rd w B (some ⟨b, off, none⟩) ls.flatten) (hz : ∀ l ∈ ls, l.length = z) (i : Nat) : Rd w B (some ⟨b, off + i * z, none⟩) (ls.drop i).flatten := by
  rcases h with h | ⟨b', off', he, hb, hd⟩
  · left
    rw [← flatZ_drop ls hz, h, List.drop_nil]
  · injection he with he
    injection he with h1 h2
    subst h1
    subst h2
    refine .inr ⟨b, off + i * z, rfl, hb, fun j v hv => ?_⟩
    rw [Nat.add_assoc]
    apply hd
    rw [← flatZ_drop ls hz, List.getElem?_drop] at hv
    exact hv
theorem mapLenK {ks : List Key} (h : ∀ k ∈ ks, kOk k) : ∀ l ∈ ks.map kc, l.length = 33 := by
  intro l hl
  obtain ⟨k, hk, rfl⟩ := List.mem_map.1 hl
  exact kc_len (h k hk)
theorem mapLenH {ks : List (List UInt8)} (h : ∀ k ∈ ks, hOk k) : ∀ l ∈ ks.map hc, l.length = 32 := by
  intro l hl
  obtain ⟨k, hk, rfl⟩ := List.mem_map.1 hl
  exact hc_len (h k hk)
theorem one_flat {α : Type} {enc : α → List Value} (h1 : ∀ k, ∀ u ∈ enc k, u.oneCell' = true) (ks : List α) : ∀ u ∈ (ks.map enc).flatten, u.oneCell' = true := by
  intro u hu
  obtain ⟨l, hl, hu⟩ := List.mem_flatten.1 hu
  obtain ⟨k, _, rfl⟩ := List.mem_map.1 hl
  exact h1 k u hu
theorem aggKc {k : Key} (h : kOk k) : AggT Try.prog 54 (kc k).length := by
  rw [kc_len h]
  exact aggT_of Try.underlying54 rfl (by kernel_rfl)
theorem aggHc {k : List UInt8} (h : hOk k) : AggT Try.prog 52 (hc k).length := by
  rw [hc_len h]
  exact aggT_of Try.underlying52 rfl (by kernel_rfl)
theorem zKc : (Value.agg (kc (0, List.replicate 32 0)).toArray).cells.size = 33 := by simp [Value.cells, kc]
theorem zHc : (Value.agg (hc (List.replicate 32 0)).toArray).cells.size = 32 := by simp [Value.cells, hc]
theorem elK : ElT Try.prog 22 54 33 40 (Value.agg (kc (0, List.replicate 32 0)).toArray).cells := elT_of Try.underlying22 (by kernel_rfl) zKc (by decide)
theorem elH : ElT Try.prog 23 52 32 32 (Value.agg (hc (List.replicate 32 0)).toArray).cells := elT_of Try.underlying23 (by kernel_rfl) zHc (by decide)
theorem keyedK : Keyed Try.prog 54 := Keyed.of_law (deep_law (m := 6) (by omega) (by kernel_rfl) (by kernel_rfl) (by kernel_rfl))
theorem keyedH : Keyed Try.prog 52 := Keyed.of_law (deep_law (m := 6) (by omega) (by kernel_rfl) (by kernel_rfl) (by kernel_rfl))
theorem mapM_some {α β : Type} {f : α → Option β} : ∀ (l : List α), (∀ x ∈ l, ∃ y, f x = some y) → ∃ ys, l.mapM f = some ys
  | [], _ => ⟨[], rfl⟩
  | x :: r, h => by
    obtain ⟨y, hy⟩ := h x List.mem_cons_self
    obtain ⟨ys, hys⟩ := mapM_some r fun z hz => h z (List.mem_cons_of_mem _ hz)
    exact ⟨y :: ys, by simp [List.mapM_cons, hy, hys]⟩
theorem wf_u8 (x : UInt8) : (Lit.int .u8 (x.toNat : Int)).wf = true := by
  have := x.toNat_lt
  have h1 : IntKind.u8.min = 0 := by decide
  have h2 : IntKind.u8.max = 255 := by decide
  simp [Lit.wf, h1, h2]
  omega
theorem wf_u64 {n : Nat} (h : n < 18446744073709551616) : (Lit.int .u64 (n : Int)).wf = true := by
  have h1 : IntKind.u64.min = 0 := by decide
  have h2 : IntKind.u64.max = 18446744073709551615 := by decide
  simp [Lit.wf, h1, h2]
  omega
theorem lits_u8 (d : Nat) (x : UInt8) : Try.prog.keyLits (d + 1) 5 [cb x] = some [.int .u8 (x.toNat : Int)] := by
  unfold Program.keyLits
  simp only [Try.underlying5, cb]
  rw [if_pos ⟨trivial, wf_u8 x⟩]
theorem cellsH : Try.prog.cellsOf 52 = 32 := by kernel_rfl
theorem cellsK : Try.prog.cellsOf 54 = 33 := by kernel_rfl
theorem cells8 : Try.prog.cellsOf 5 = 1 := by kernel_rfl
theorem cells64 : Try.prog.cellsOf 50 = 1 := by kernel_rfl
theorem lits_hash (d : Nat) {h : List UInt8} (hl : hOk h) : ∃ ls, Try.prog.keyLits (d + 2) 52 (hc h) = some ls := by
  unfold Program.keyLits
  simp only [Try.underlying52, cellsH, cells8, hc_len hl, if_true]
  obtain ⟨ys, hys⟩ := mapM_some (f := fun i => Try.prog.keyLits (d + 1) 5 (List.take 1 (List.drop (i * 1) (hc h)))) (List.range 32) (by
    intro i hi
    have hi := List.mem_range.1 hi
    have : List.take 1 (List.drop (i * 1) (hc h)) = [cb (h[i]'(by rw [show h.length = 32 from hl]; exact hi))] := by
      rw [Nat.mul_one, List.drop_eq_getElem_cons (by rw [hc_len hl]; exact hi)]
      simp [hc]
    rw [this]
    exact ⟨_, lits_u8 d _⟩)
  exact ⟨ys.flatten, by rw [hys]; rfl⟩
theorem lits_key (d : Nat) {k : Key} (hk : kOk k) : ∃ ls, Try.prog.keyLits (d + 3) 54 (kc k) = some ls := by
  unfold Program.keyLits
  simp only [Try.underlying54, cellsK, kc_len hk]
  rw [if_pos ⟨trivial, by decide +kernel⟩]
  obtain ⟨ls, hls⟩ := lits_hash d (h := k.2) hk.2
  have h1 : List.take 1 (List.drop 0 (kc k)) = [.int .u64 (k.1 : Int)] := rfl
  have h2 : List.take 32 (List.drop 1 (kc k)) = hc k.2 := by
    show List.take 32 (k.2.map cb) = _
    rw [List.take_of_length_le (by rw [List.length_map, hk.2]; exact Nat.le_refl _)]
    rfl
  have h3 : Try.prog.keyLits (d + 2) 50 [.int .u64 (k.1 : Int)] = some [.int .u64 (k.1 : Int)] := by
    unfold Program.keyLits
    simp only [Try.underlying50]
    rw [if_pos ⟨trivial, wf_u64 hk.1⟩]
  simp only [List.mapM_cons, List.mapM_nil, cells64, cellsH, h1, h2, h3, hls]
  exact ⟨_, rfl⟩
theorem keyOfH {h : List UInt8} (hl : hOk h) : ∃ l, keyOf Try.prog 52 (.agg (hc h).toArray) = some l := by
  unfold keyOf
  simp only [Try.underlying52]
  have hf : (Try.prog.keyType 52 && Value.formed Try.prog 52 (.agg (hc h).toArray)) = true := by
    rw [show Try.prog.keyType 52 = true from by kernel_rfl]
    simp only [Value.formed, Try.underlying52, cellsH, List.size_toArray, hc_len hl]
    rfl
  rw [if_pos hf]
  obtain ⟨ls, hls⟩ := lits_hash (Try.prog.types.size + 1 - 2) hl
  have hz : Try.prog.types.size + 1 - 2 + 2 = Try.prog.types.size + 1 := by
    have : 1 ≤ Try.prog.types.size := by decide +kernel
    omega
  rw [hz] at hls
  exact ⟨_, by rw [show (Value.agg (hc h).toArray).cells.toList = hc h from rfl, hls]; rfl⟩
theorem keyOfK {k : Key} (hk : kOk k) : ∃ l, keyOf Try.prog 54 (.agg (kc k).toArray) = some l := by
  unfold keyOf
  simp only [Try.underlying54]
  have hf : (Try.prog.keyType 54 && Value.formed Try.prog 54 (.agg (kc k).toArray)) = true := by
    rw [show Try.prog.keyType 54 = true from by kernel_rfl]
    simp only [Value.formed, Try.underlying54, cellsK, List.size_toArray, kc_len hk]
    rfl
  rw [if_pos hf]
  obtain ⟨ls, hls⟩ := lits_key (Try.prog.types.size + 1 - 3) hk
  have hz : Try.prog.types.size + 1 - 3 + 3 = Try.prog.types.size + 1 := by
    have : 2 ≤ Try.prog.types.size := by decide +kernel
    omega
  rw [hz] at hls
  exact ⟨_, by rw [show (Value.agg (kc k).toArray).cells.toList = kc k from rfl, hls]; rfl⟩
/-- A slice literal of values of many cells each. -/
theorem run_slN {P : Program} {t e size bytes : Nat} {zs : Array Value} (E : ElT P t e size bytes zs) (vs : List Value) (hs : ∀ v ∈ vs, v.cells.size = size) (hn : 0 < vs.length) (hsm : vs.length * size ≤ 2 ^ 24) (w : World) (parts : Array (Nat × Value)) (hp : parts.toList = (vs.zipIdx 0).map fun x => (x.2, x.1)) (n : Nat) (hnn : n = vs.length) :
    (Instr.buildSlice t n parts).run P w = .ok (.slice (some ⟨w.heap.size, 0, none⟩) n n) (w.alloc (.cells (flat vs).toArray e)) := by
  subst hnn
  obtain ⟨i, z, hi, hz, hsz, hb, hzz⟩ := E.info
  have hpos := E.pos
  have hp0 : vs.length * size ≠ 0 := Nat.ne_of_gt (Nat.mul_pos hn hpos)
  have hf := Great.fill_whole (s := size) hpos vs ((Array.range (vs.length * size)).map (z.cells[· % z.cells.size]!)) hs (by simp)
  exact run_buildSlice (P := P) w t e vs.length parts (flat vs).toArray i z E.under hi hz (by rw [hsz]; omega) (by rw [hsz]; exact hp0) (by
    rw [hsz, hp]
    exact hf)
theorem wpList_slN {P : Program} {ops : Array Oper} {rest : List Oper} {o : Oper} {a : Act} {w : World} {Q : Exit → Act → World → Prop} (hgd : o.guard = none) {t n : Nat} {parts : Array (Nat × Operand)} (ho : o.op = .buildSlice t n parts) (vs : List Value)
    (hp : (parts.map fun (i, x) => (i, a.eval x)).toList = (vs.zipIdx 0).map fun x => (x.2, x.1)) (hnn : n = vs.length) {e size bytes : Nat} {zs : Array Value} (E : ElT P t e size bytes zs) (hs : ∀ v ∈ vs, v.cells.size = size) (hn : 0 < vs.length) (hsm : vs.length * size ≤ 2 ^ 24)
    (h : ∀ g w1, w.heap.size ≤ g → Blk w1 g e (flat vs).toArray → Below w.heap.size w w1 → wpList P ops Q rest (a.put o.dst (.slice (some ⟨g, 0, none⟩) n n)) w1) : wpList P ops Q (o :: rest) a w := by
  refine wpList_val (w' := w.alloc (.cells (flat vs).toArray e)) hgd ?_ (h w.heap.size _ (Nat.le_refl _) (Blk.new w e _) (bx_alloc (Below.refl _ _) _))
  unfold execOp
  simp only [ho, Sem.run_bind, run_slN E vs hs hn hsm w _ hp n hnn, Result.andThen_ok, Sem.run_pure]
theorem flat1 (x : List Value) : flat [Value.agg x.toArray] = x := by simp [flat, Value.cells]
theorem rd_blk {w : World} {g : Nat} {t : TypeId} {x : List Value} (h : Blk w g t x.toArray) : Rd w w.heap.size (some ⟨g, 0, none⟩) x :=
  .inr ⟨g, 0, rfl, h.lt, fun i v hv => by rw [Nat.zero_add, h.cell]; simpa using hv⟩
theorem own_map {P : Program} {kt m : Nat} {f : Value → Option Value} {w : World} {base e size n : Nat} {v : Value} {xs : List Value} (h : w.ownsRow base e size v n xs) (hM : KMap P kt w m f) : v.ownBlock ≠ some m := by
  obtain ⟨es, clock, hb, _⟩ := hM
  exact own_ne h hb (fun cur e => by cases e)
theorem own_oth {P : Program} {kt m : Nat} {f : Value → Option Value} {w w1 : World} {base e size n : Nat} {v : Value} {xs : List Value} (h : w.ownsRow base e size v n xs) (hM : KMap P kt w m f) (ho : Oth w.drew w1 m) : w1.ownsRow base e size v n xs := by
  have hne := own_map h hM
  refine ⟨h.1, h.2.imp id ?_⟩
  rintro ⟨g, cap, cur, rfl, h2, h3, h4⟩
  exact ⟨g, cap, cur, rfl, h2, (ho.oth g (fun e => hne (by rw [← e]; rfl))).trans h3, h4⟩
/-- The last ones. -/
def last32 {α : Type} (l : List α) : List α := l.drop (l.length - 32)
theorem last32_len {α : Type} (l : List α) : (last32 l).length = min l.length 32 := by rw [last32, List.length_drop]; omega
theorem last32_ok {α : Type} {p : α → Prop} {l : List α} (h : ∀ x ∈ l, p x) : ∀ x ∈ last32 l, p x := fun x hx => h x (List.mem_of_mem_drop hx)
/-- How often it is there. -/
def cntD {α : Type} [DecidableEq α] (x : α) (l : List α) : Nat := l.count x
theorem cntD_le {α : Type} [DecidableEq α] (x : α) (l : List α) : cntD x l ≤ l.length := List.count_le_length
theorem cntD_zero {α : Type} [DecidableEq α] {x : α} {l : List α} : cntD x l = 0 ↔ x ∉ l := List.count_eq_zero
theorem cntD_snoc {α : Type} [DecidableEq α] (x : α) (l : List α) : cntD x (l ++ [x]) = cntD x l + 1 := by simp [cntD, List.count_append]
theorem cntD_snoc_ne {α : Type} [DecidableEq α] {x y : α} (l : List α) (h : y ≠ x) : cntD y (l ++ [x]) = cntD y l := by
  unfold cntD
  rw [List.count_append, List.count_cons_of_ne (fun e => h e.symm), List.count_nil, Nat.add_zero]
/-- What a map of counts holds. -/
def Cnt {α : Type} [DecidableEq α] (enc : α → List Value) (ok : α → Prop) (f : Value → Option Value) (seen : List α) : Prop :=
  ∀ x, ok x → f (.agg (enc x).toArray) = if cntD x seen = 0 then none else some (.int .i64 (cntD x seen : Nat))
theorem cnt_nil {α : Type} [DecidableEq α] (enc : α → List Value) (ok : α → Prop) : Cnt enc ok (fun _ => none) [] := fun x _ => by rw [if_pos (cntD_zero.2 (by simp))]
theorem cnt_getD {α : Type} [DecidableEq α] {enc : α → List Value} {ok : α → Prop} {f : Value → Option Value} {seen : List α} (h : Cnt enc ok f seen) {x : α} (hx : ok x) : (f (.agg (enc x).toArray)).getD (.int .i64 0) = .int .i64 (cntD x seen : Nat) := by
  rw [h x hx]
  split
  · rename_i h0
    rw [h0]; rfl
  · rfl
theorem cnt_put {α : Type} [DecidableEq α] {enc : α → List Value} (hinj : ∀ {a b : α}, enc a = enc b → a = b) {ok : α → Prop} {f : Value → Option Value} {seen : List α} (h : Cnt enc ok f seen) {x : α} :
    Cnt enc ok (putV f (.agg (enc x).toArray) (.int .i64 ((cntD x seen : Nat) + 1))) (seen ++ [x]) := by
  intro y hy
  by_cases hyx : y = x
  · subst hyx
    rw [putV_at, cntD_snoc, if_neg (Nat.succ_ne_zero _)]
    rfl
  · have hne : Value.agg (enc y).toArray ≠ .agg (enc x).toArray := by
      intro he
      injection he with he
      exact hyx (hinj (by simpa using he))
    rw [putV_off hne, h y hy, cntD_snoc_ne _ hyx]
/-- The ones of a row that are not in another one, nor ahead, each once. -/
def notsL {α : Type} [DecidableEq α] (other : List α) : List α → List α → List α
  | _, [] => []
  | pre, x :: r => if x ∈ other ++ pre then notsL other (pre ++ [x]) r else x :: notsL other (pre ++ [x]) r
theorem notsL_snoc {α : Type} [DecidableEq α] (other : List α) (x : α) : ∀ (l pre : List α), notsL other pre (l ++ [x]) = notsL other pre l ++ if x ∈ other ++ pre ++ l then [] else [x]
  | [], pre => by simp [notsL]
  | y :: r, pre => by
    show notsL other pre (y :: (r ++ [x])) = _
    unfold notsL
    rw [notsL_snoc other x r (pre ++ [y])]
    have : other ++ (pre ++ [y]) ++ r = other ++ pre ++ y :: r := by simp
    rw [this]
    split <;> rfl
def nots {α : Type} [DecidableEq α] (l other : List α) : List α := notsL other [] l
theorem nots_snoc {α : Type} [DecidableEq α] (l other : List α) (x : α) : nots (l ++ [x]) other = nots l other ++ if x ∈ other ++ l then [] else [x] := by
  have := notsL_snoc other x l []
  rw [List.append_nil] at this
  exact this
theorem nots_len {α : Type} [DecidableEq α] (other : List α) : ∀ (l pre : List α), (notsL other pre l).length ≤ l.length
  | [], _ => Nat.le_refl _
  | y :: r, pre => by
    unfold notsL
    have := nots_len other r (pre ++ [y])
    split
    · rw [List.length_cons]; omega
    · rw [List.length_cons, List.length_cons]; omega
theorem nots_sub {α : Type} [DecidableEq α] (other : List α) : ∀ (l pre : List α), ∀ x ∈ notsL other pre l, x ∈ l
  | [], _, _, h => by simp [notsL] at h
  | y :: r, pre, x, h => by
    unfold notsL at h
    split at h
    · exact List.mem_cons_of_mem _ (nots_sub other r _ x h)
    · rcases List.mem_cons.1 h with rfl | h
      · exact List.mem_cons_self
      · exact List.mem_cons_of_mem _ (nots_sub other r _ x h)
end Go.Proofs.Ythbmmilefimpaaa
