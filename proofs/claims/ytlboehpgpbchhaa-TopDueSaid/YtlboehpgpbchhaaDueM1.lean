/-
  WORDS of the law TopDue: a map of the call's own that counts timers.
-/
import Derived.Test.YtlboehpgpbchhaaDueW1
import Derived.WideKeyEntry
import Derived.Laws.IdiomRangeMap
set_option linter.unusedVariables false
set_option linter.unusedSimpArgs false
namespace Go.Proofs.Ytlboehpgpbchhaa
open Go.RowKit

theorem tmS (W : World) (d : Nat) (a b : ByteArray) : (Op.equalIn (d + 1) 9 (.string a) (.string b)).run Try.prog W = .ok (a.toList == b.toList) W := run_equalIn_string W d 9 a b Try.underlying9
theorem tmL (W : World) (d : Nat) (a b : Int) : (Op.equalIn (d + 1) 2 (.int .i64 a) (.int .i64 b)).run Try.prog W = .ok (a == b) W := run_equalIn_int W d 2 .i64 .i64 a b Try.underlying2
def sameT (x y : Tm) : Bool := x.a == y.a && x.s.toList == y.s.toList
theorem tm_eq (W : World) (x y : Tm) : (Op.equal 62 x.val y.val).run Try.prog W = .ok (sameT x y) W := by
  have hS : Try.prog.underlying 62 = some (.struct (Try.prog.fieldsOf 62)) := by kernel_rfl
  have hp : Try.prog.stoodInHeld 62 = false := by kernel_rfl
  obtain ⟨a, s⟩ := x
  obtain ⟨b, t⟩ := y
  unfold Tm.val sameT Op.equal
  show (Op.equalIn (9998 + 2) _ _ _).run Try.prog W = _
  rw [run_equalIn_agg W _ 62 _ _ hS hp]
  simp only [Program.fieldsOf, Try.underlying62]
  by_cases e1 : s.toList = t.toList <;> by_cases e2 : a = b <;> simp [Op.eqFields, go_sem, tmS, tmL, e1, e2]
theorem tm_check (em : Bool) (x : Tm) (W : World) : (Instr.checkKey em 10000 62 x.val).run Try.prog W = .ok () W := by
  unfold Tm.val
  kernel_rfl
theorem tloopL (b : ByteArray) : ∀ (n i : Nat) (r : List UInt8), b.size - i = n → ByteArray.toList.loop b i r = r.reverse ++ b.data.toList.drop i := by
  intro n
  induction n with
  | zero =>
    intro i r h
    unfold ByteArray.toList.loop
    rw [if_neg (by omega), List.drop_eq_nil_of_le (by rw [Array.length_toList]; show b.size ≤ i; omega)]
    simp
  | succ n ih =>
    intro i r h
    unfold ByteArray.toList.loop
    rw [if_pos (by omega), ih (i + 1) _ (by omega)]
    have hi : i < b.data.toList.length := by rw [Array.length_toList]; show i < b.size; omega
    rw [List.drop_eq_getElem_cons hi]
    have : b.get! i = b.data.toList[i] := by
      rw [ByteArray.get!]
      simp at hi
      simp [getElem!_pos, hi]
    simp [this]
theorem ttoListL (b : ByteArray) : b.toList = b.data.toList := by
  unfold ByteArray.toList
  rw [tloopL b _ 0 [] rfl]; simp
theorem teqLL {a b : ByteArray} (h : a.toList = b.toList) : a = b := by
  rw [ttoListL, ttoListL] at h
  obtain ⟨⟨l⟩⟩ := a
  obtain ⟨⟨m⟩⟩ := b
  simp at h
  rw [h]
theorem tm_bits (x : Tm) : Instr.sameBits 10000 x.val x.val = true := by
  unfold Tm.val
  show Instr.sameBits (9999 + 1) _ _ = true
  simp [Instr.sameBits]
  first | exact beq_self_eq_true _ | (cases x.s; rename_i d; exact beq_self_eq_true d) | (obtain ⟨a, ⟨d⟩⟩ := x; show (d == d) = true; exact beq_self_eq_true d)
theorem tm_stays (x : Tm) (W : World) : (Instr.keyThatStays x.val x.val).run Try.prog W = .ok x.val W := by
  unfold Instr.keyThatStays
  rw [tm_bits]
  rfl
theorem sameT_eq {x y : Tm} : sameT x y = true ↔ x = y := by
  obtain ⟨a, s⟩ := x
  obtain ⟨b, t⟩ := y
  unfold sameT
  simp only [Bool.and_eq_true, beq_iff_eq]
  constructor
  · rintro ⟨rfl, h⟩
    rw [teqLL h]
  · intro h
    injection h with h1 h2
    subst h1 h2
    exact ⟨rfl, rfl⟩
theorem val_inj {x y : Tm} (h : x.val = y.val) : x = y := by
  obtain ⟨a, s⟩ := x
  obtain ⟨b, t⟩ := y
  unfold Tm.val at h
  injection h with h
  simp at h
  rw [h.1, h.2]
theorem ask_any (x : Tm) (W : World) : ∀ (es : List MapEntry) (i : Nat), (∀ e ∈ es, ∃ y : Tm, e.key = y.val) →
    ((Instr.findAsking 62 x.val es i).run Try.prog W = .ok none W ∧ ∀ e ∈ es, e.key ≠ x.val) ∨ ∃ j e, (Instr.findAsking 62 x.val es i).run Try.prog W = .ok (some (i + j, e.val)) W ∧ es[j]? = some e ∧ e.key = x.val
  | [], i, _ => .inl ⟨rfl, by simp⟩
  | e :: es, i, h => by
    obtain ⟨y, hy⟩ := h e List.mem_cons_self
    unfold Instr.findAsking
    simp only [Sem.run_bind, hy, tm_eq, Result.andThen]
    by_cases hs : sameT x y = true
    · right
      have := sameT_eq.1 hs
      subst this
      exact ⟨0, e, by simp [hs], rfl, hy⟩
    · have hf : sameT x y = false := by simpa using hs
      rcases ask_any x W es (i + 1) (fun e he => h e (List.mem_cons_of_mem _ he)) with ⟨h1, h2⟩ | ⟨j, e', h1, h2, h3⟩
      · left
        refine ⟨by simp [hf, h1], fun e' he => ?_⟩
        rcases List.mem_cons.1 he with rfl | he
        · rw [hy]
          intro e2
          exact hs (sameT_eq.2 (val_inj e2).symm)
        · exact h2 e' he
      · right
        exact ⟨j + 1, e', by simp [hf, h1]; omega, by simpa using h2, h3⟩
theorem find_any (x : Tm) (W : World) (es : List MapEntry) (h : ∀ e ∈ es, ∃ y : Tm, e.key = y.val) :
    ((Instr.findKey 62 x.val es).run Try.prog W = .ok none W ∧ ∀ e ∈ es, e.key ≠ x.val) ∨ ∃ j e, (Instr.findKey 62 x.val es).run Try.prog W = .ok (some (j, e.val)) W ∧ es[j]? = some e ∧ e.key = x.val := by
  cases es with
  | nil => exact .inl ⟨by simp [Instr.findKey, run_underlying Try.underlying62, Instr.findNow, Result.andThen], by simp⟩
  | cons e es =>
    have hn : ∀ F, Instr.findNow (TypeDesc.struct F) x.val (e :: es) 0 = none := by
      intro F
      unfold Instr.findNow Tm.val
      simp [Instr.sameNow]
    have := ask_any x W (e :: es) 0 h
    unfold Instr.findKey
    simp only [Sem.run_bind, run_underlying Try.underlying62, Result.andThen, hn]
    simpa using this
open Go.ChangeMaps (setBlock)
/-- Entries that count timers. -/
structure CE (es : Array MapEntry) (clock : Nat) (f : Tm → Int) : Prop where
  st : MapKept.Stamped es clock
  ents : ∀ e ∈ es.toList, ∃ x : Tm, e.key = x.val ∧ e.val = .int .i64 (f x)
  none_ : ∀ x : Tm, (∀ e ∈ es.toList, e.key ≠ x.val) → f x = 0
/-- Block b is a map that counts timers. -/
def CM (W : World) (b : Nat) (f : Tm → Int) : Prop := ∃ es clock, W.heap[b]? = some (.map es clock) ∧ CE es clock f
theorem CE.vals {es : Array MapEntry} {clock : Nat} {f : Tm → Int} (h : CE es clock f) : ∀ e ∈ es.toList, ∃ y : Tm, e.key = y.val := fun e he => by obtain ⟨x, h1, -⟩ := h.ents e he; exact ⟨x, h1⟩
theorem zero3 (W : World) : (zeroValue 3).run Try.prog W = .ok (.int .i64 0) W := by kernel_rfl
theorem CM.look {W : World} {b : Nat} {f : Tm → Int} (h : CM W b f) (x : Tm) : (Instr.lookup 69 (.map (some b)) x.val false).run Try.prog W = .ok (.int .i64 (f x)) W := by
  obtain ⟨es, clock, hb, hc⟩ := h
  rcases find_any x W es.toList hc.vals with ⟨h1, h2⟩ | ⟨j, e, h1, h2, h3⟩
  · rw [hc.none_ x h2]
    simp [Instr.lookup, run_underlying Try.underlying69, MapKept.run_getObj_map hb, tm_check, h1, zero3, Result.andThen]
  · obtain ⟨y, hy1, hy2⟩ := hc.ents e (List.mem_of_getElem? h2)
    have := val_inj (hy1.symm.trans h3)
    subst this
    simp [Instr.lookup, run_underlying Try.underlying69, MapKept.run_getObj_map hb, tm_check, h1, hy2, Result.andThen]
/-- What is counted, but for one. -/
def updF (f : Tm → Int) (x : Tm) (n : Int) (y : Tm) : Int := if sameT y x then n else f y
theorem updF_same (f : Tm → Int) (x : Tm) (n : Int) : updF f x n x = n := by unfold updF; rw [if_pos (sameT_eq.2 rfl)]
theorem updF_other (f : Tm → Int) {x y : Tm} (n : Int) (h : y ≠ x) : updF f x n y = f y := by unfold updF; rw [if_neg (fun e => h (sameT_eq.1 e))]
theorem CE.push {es : Array MapEntry} {clock : Nat} {f : Tm → Int} (h : CE es clock f) (x : Tm) (hx : ∀ e ∈ es.toList, e.key ≠ x.val) (n : Int) : CE (es.push ⟨x.val, .int .i64 n, clock⟩) (clock + 1) (updF f x n) := by
  obtain ⟨s1, s2, s3⟩ := h.st
  refine ⟨⟨?_, ?_, ?_⟩, ?_, ?_⟩
  · intro e he
    rw [Array.toList_push] at he
    rcases List.mem_append.1 he with h1 | h1
    · have := s1 e h1
      omega
    · rw [List.mem_singleton.1 h1]
      exact Nat.lt_succ_self _
  · rw [Array.toList_push, List.map_append, List.nodup_append]
    refine ⟨s2, by simp, ?_⟩
    intro a ha c hc e2
    simp only [List.map_cons, List.map_nil, List.mem_singleton] at hc
    obtain ⟨e, he, rfl⟩ := List.mem_map.1 ha
    have := s1 e he
    omega
  · rw [Array.toList_push, List.map_append, List.nodup_append]
    refine ⟨s3, by simp, ?_⟩
    intro a ha c hc e2
    simp only [List.map_cons, List.map_nil, List.mem_singleton] at hc
    obtain ⟨e, he, rfl⟩ := List.mem_map.1 ha
    exact hx e he (by rw [e2, hc])
  · intro e he
    rw [Array.toList_push] at he
    rcases List.mem_append.1 he with h1 | h1
    · obtain ⟨y, hy1, hy2⟩ := h.ents e h1
      have : y ≠ x := fun e2 => hx e h1 (by rw [hy1, e2])
      exact ⟨y, hy1, by rw [updF_other f n this]; exact hy2⟩
    · rw [List.mem_singleton.1 h1]
      exact ⟨x, rfl, by rw [updF_same]⟩
  · intro y hy
    rw [Array.toList_push] at hy
    have h1 : y ≠ x := fun e2 => hy ⟨x.val, .int .i64 n, clock⟩ (by simp) (by rw [e2])
    rw [updF_other f n h1]
    exact h.none_ y (fun e he => hy e (List.mem_append_left _ he))
theorem mod_list (es : Array MapEntry) (j : Nat) (g : MapEntry → MapEntry) {e0 : MapEntry} (h : es.toList[j]? = some e0) : (es.modify j g).toList = es.toList.set j (g e0) := by
  rw [Array.toList_modify, Go.ChangeMaps.modify_eq_set _ _ _ _ h]
theorem map_set_same {β : Type} (l : List MapEntry) (g : MapEntry → β) (j : Nat) {e0 e1 : MapEntry} (h : l[j]? = some e0) (hg : g e1 = g e0) : (l.set j e1).map g = l.map g := by
  rw [List.map_set, hg]
  exact Go.WideElems.set_self _ _ _ (by rw [List.getElem?_map, h]; rfl)
theorem CE.set {es : Array MapEntry} {clock : Nat} {f : Tm → Int} (h : CE es clock f) (x : Tm) {j : Nat} {e0 : MapEntry} (hj : es.toList[j]? = some e0) (hx : e0.key = x.val) (n : Int) : CE (es.modify j fun e => { e with val := .int .i64 n }) clock (updF f x n) := by
  obtain ⟨s1, s2, s3⟩ := h.st
  have hl := mod_list es j (fun e => { e with val := .int .i64 n }) hj
  refine ⟨⟨?_, ?_, ?_⟩, ?_, ?_⟩
  · intro e he
    rw [hl] at he
    rcases List.mem_or_eq_of_mem_set he with h1 | h1
    · exact s1 e h1
    · rw [h1]
      exact s1 e0 (List.mem_of_getElem? hj)
  · have := map_set_same es.toList (fun e => e.born) j (e1 := { e0 with val := .int .i64 n }) hj rfl
    rw [hl, this]
    exact s2
  · have := map_set_same es.toList (fun e => e.key) j (e1 := { e0 with val := .int .i64 n }) hj rfl
    rw [hl, this]
    exact s3
  · intro e he
    rw [hl] at he
    obtain ⟨i, hi, hie⟩ := List.getElem_of_mem he
    rw [List.length_set] at hi
    by_cases hij : j = i
    · subst hij
      rw [List.getElem_set_self] at hie
      subst hie
      exact ⟨x, hx, by rw [updF_same]⟩
    · rw [List.getElem_set_ne hij] at hie
      obtain ⟨y, hy1, hy2⟩ := h.ents e (by rw [← hie]; exact List.getElem_mem hi)
      have hne : y ≠ x := by
        intro e2
        have hk : (es.toList.map (·.key))[i]? = (es.toList.map (·.key))[j]? := by
          rw [List.getElem?_map, List.getElem?_map, hj, List.getElem?_eq_getElem hi, hie]
          simp [hy1, hx, e2]
        exact hij ((List.getElem?_inj (by simpa using hi) s3).1 hk).symm
      exact ⟨y, hy1, by rw [updF_other f n hne]; exact hy2⟩
  · intro y hy
    rw [hl] at hy
    by_cases hyx : y = x
    · subst hyx
      exact absurd hx (hy { e0 with val := .int .i64 n } (List.mem_set (List.getElem?_eq_some_iff.1 hj).1 _))
    · rw [updF_other f n hyx]
      refine h.none_ y (fun e he e2 => ?_)
      obtain ⟨i, hi, hie⟩ := List.getElem_of_mem he
      by_cases hij : j = i
      · subst hij
        rw [List.getElem?_eq_getElem hi, hie] at hj
        injection hj with hj
        subst hj
        exact hyx (val_inj (e2.symm.trans hx))
      · exact hy e (List.mem_of_getElem? (i := i) (by rw [List.getElem?_set_ne hij, List.getElem?_eq_getElem hi, hie])) e2
theorem CE.congr {es : Array MapEntry} {clock : Nat} {f g : Tm → Int} (h : CE es clock f) (hfg : ∀ x, f x = g x) : CE es clock g :=
  ⟨h.st, fun e he => by obtain ⟨x, h1, h2⟩ := h.ents e he; exact ⟨x, h1, by rw [← hfg]; exact h2⟩, fun x hx => by rw [← hfg]; exact h.none_ x hx⟩
/-- A count is raised or lowered: the entry, then the store. -/
theorem CM.entry {W : World} {b : Nat} {f : Tm → Int} (h : CM W b f) (x : Tm) :
    ∃ (v : Value) (st : Nat) (es1 : Array MapEntry) (c1 : Nat), (Instr.mapEntry 69 (.map (some b)) x.val).run Try.prog W = .ok (.tuple #[v, goInt st]) (setBlock W b (.map es1 c1)) ∧ CE es1 c1 f ∧
      ∀ (W2 : World), W2.heap[b]? = some (.map es1 c1) → ∀ n : Int, ∃ es2, (Instr.entryStore 69 (.map (some b)) (goInt st) (.int .i64 n)).run Try.prog W2 = .ok () (setBlock W2 b (.map es2 c1)) ∧ CE es2 c1 (updF f x n) := by
  obtain ⟨es, clock, hb, hc⟩ := h
  obtain ⟨s1, s2, s3⟩ := hc.st
  rcases find_any x W es.toList hc.vals with ⟨h1, h2⟩ | ⟨j, e0, h1, h2, h3⟩
  · refine ⟨.int .i64 0, clock, es.push ⟨x.val, .int .i64 0, clock⟩, clock + 1, ?_, (hc.push x h2 0).congr (fun y => by unfold updF; split; rename_i e; rw [sameT_eq.1 e, hc.none_ x h2]; rfl), fun W2 hW2 n => ⟨es.push ⟨x.val, .int .i64 n, clock⟩, ?_, hc.push x h2 n⟩⟩
    · simp [Instr.mapEntry, run_underlying Try.underlying69, MapKept.run_getObj_map hb, tm_check, h1, zero3, MapKept.run_setObj_map _ hb, Result.andThen, setBlock]
    · have hidx : (es.push ⟨x.val, .int .i64 0, clock⟩).findIdx? (fun e => ((e.born : Nat) : Int) == ((clock : Nat) : Int)) = some es.size := by
        rw [Go.WideElems.findIdx_arr]
        exact Go.WideElems.findIdx_born (l := (es.push ⟨x.val, .int .i64 0, clock⟩).toList) (j := es.size) (e0 := ⟨x.val, .int .i64 0, clock⟩) (by
          simp only [Array.toList_push, List.map_append, List.map_cons, List.map_nil]
          refine List.nodup_append.2 ⟨s2, by simp, fun a ha c hc e1 => ?_⟩
          simp only [List.mem_singleton] at hc
          obtain ⟨y, hy, rfl⟩ := List.mem_map.1 ha
          have := s1 y hy
          omega) (by simp)
      have hmod : (es.push ⟨x.val, .int .i64 0, clock⟩).modify es.size (fun e => { e with val := .int .i64 n }) = es.push ⟨x.val, .int .i64 n, clock⟩ := by
        apply Array.ext'
        rw [Array.toList_modify, Array.toList_push, Array.toList_push, ← Array.length_toList, Go.WideElems.modify_last]
      simp [Instr.entryStore, MapKept.run_getObj_map hW2, asInt, asIntOf, goInt, hidx, hmod, MapKept.run_setObj_map _ hW2, Result.andThen, setBlock]
  · have hj : es[j]? = some e0 := by simpa using h2
    have hsame : es.modify j (fun e => { e with key := x.val }) = es := by
      apply Array.ext'
      rw [mod_list _ _ _ h2]
      have : ({ e0 with key := x.val } : MapEntry) = e0 := by rw [← h3]
      rw [this]
      exact Go.WideElems.set_self _ _ _ h2
    have hst := tm_stays x
    refine ⟨e0.val, e0.born, es, clock, ?_, hc, fun W2 hW2 n => ⟨es.modify j (fun e => { e with val := .int .i64 n }), ?_, hc.set x h2 h3 n⟩⟩
    · simp [Instr.mapEntry, run_underlying Try.underlying69, MapKept.run_getObj_map hb, tm_check, h1, hj, h3, hst, hsame, MapKept.run_setObj_map _ hb, Result.andThen, setBlock]
    · have hidx : es.findIdx? (fun e => ((e.born : Nat) : Int) == ((e0.born : Nat) : Int)) = some j := by
        rw [Go.WideElems.findIdx_arr]
        exact Go.WideElems.findIdx_born s2 h2
      simp [Instr.entryStore, MapKept.run_getObj_map hW2, asInt, asIntOf, goInt, hidx, MapKept.run_setObj_map _ hW2, Result.andThen, setBlock]
theorem setBlock_heap (W : World) (b : Nat) (o : Obj) (h : b < W.heap.size) : (setBlock W b o).heap[b]? = some o := by
  unfold setBlock
  simp [h]
theorem setBlock_other (W : World) (b : Nat) (o : Obj) {k : Nat} (h : k ≠ b) : (setBlock W b o).heap[k]? = W.heap[k]? := by
  unfold setBlock
  simp [Array.getElem?_setIfInBounds, h.symm]
theorem setBlock_below (W : World) (b : Nat) (o : Obj) {B : Nat} (h : B ≤ b) : Below B W (setBlock W b o) :=
  ⟨rfl, rfl, rfl, by simp [setBlock], fun k hk => setBlock_other W b o (by omega)⟩
/-- One count is turned: the entry and the store, wherever the look-up stands. -/
theorem CM.turn {W : World} {b : Nat} {f : Tm → Int} (h : CM W b f) (x : Tm) (n : Int) :
    ∃ (v : Value) (st : Nat) (V1 V2 : World), (Instr.lookup 69 (.map (some b)) x.val false).run Try.prog W = .ok (.int .i64 (f x)) W ∧
      (Instr.mapEntry 69 (.map (some b)) x.val).run Try.prog W = .ok (.tuple #[v, .int .i64 (st : Int)]) V1 ∧
      (Instr.lookup 69 (.map (some b)) x.val false).run Try.prog V1 = .ok (.int .i64 (f x)) V1 ∧
      (Instr.entryStore 69 (.map (some b)) (.int .i64 (st : Int)) (.int .i64 n)).run Try.prog V1 = .ok () V2 ∧
      CM V2 b (updF f x n) ∧ (∀ B, B ≤ b → Below B W V1 ∧ Below B W V2) ∧ (∀ k, k ≠ b → V1.heap[k]? = W.heap[k]?) ∧ ∀ k, k ≠ b → V2.heap[k]? = W.heap[k]? := by
  obtain ⟨v, st, es1, c1, h1, h2, h3⟩ := h.entry x
  have hb : b < W.heap.size := by
    obtain ⟨es, ck, hb, -⟩ := h
    exact (Array.getElem?_eq_some_iff.1 hb).1
  have hv1 := setBlock_heap W b (.map es1 c1) hb
  obtain ⟨es2, h4, h5⟩ := h3 _ hv1 n
  have hb1 : b < (setBlock W b (.map es1 c1)).heap.size := by simp [setBlock]; exact hb
  refine ⟨v, st, setBlock W b (.map es1 c1), setBlock (setBlock W b (.map es1 c1)) b (.map es2 c1), h.look x, h1, CM.look ⟨es1, c1, hv1, h2⟩ x, h4, ⟨es2, c1, setBlock_heap _ b _ hb1, h5⟩, fun B hB => ⟨setBlock_below W b _ hB, (setBlock_below W b _ hB).trans (setBlock_below _ b _ hB)⟩, fun k hk => setBlock_other W b _ hk, fun k hk => (setBlock_other _ b _ hk).trans (setBlock_other W b _ hk)⟩
end Go.Proofs.Ytlboehpgpbchhaa
