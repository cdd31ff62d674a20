/-
  DERIVED. Maps keyed by a data unit (a struct of four fields): reading, writing, deleting.
-/
import Derived.Test.YtmggfdhlbjlpjaaBase
import Derived.Test.YtmggfdhlbjlpjaaPure
import Derived.Laws.StructEq
import Derived.WideKeyRuns
namespace Go.Proofs.Ytmggfdhlbjlpjaa
open Go.RowKit
set_option linter.unusedSimpArgs false
set_option linter.unusedVariables false

def strV (l : List UInt8) : ByteArray := ⟨l.toArray⟩
theorem strV_toList (l : List UInt8) : (strV l).toList = l := by rw [ByteArray.toList_eq]; rfl
theorem strV_inj {a b : List UInt8} (h : strV a = strV b) : a = b := by rw [← strV_toList a, h, strV_toList]

/-- A key as a value. -/
def keyV (k : Key) : Value := .agg #[.int .i64 k.side, .int .u32 k.session, .int .u32 k.number, .string (strV k.data)]

theorem keyV_inj {a b : Key} (h : keyV a = keyV b) : a = b := by
  unfold keyV at h
  injection h with h
  have h := congrArg Array.toList h
  simp at h
  obtain ⟨h1, h2, h3, h4⟩ := h
  cases a; cases b
  simp only [Key.mk.injEq]
  exact ⟨h1, h2, h3, strV_inj h4⟩

set_option maxRecDepth 100000 in
theorem run_key_eq (a b : Key) (w : World) : (Op.equal 75 (keyV a) (keyV b)).run Try.prog w = .ok (decide (a = b)) w := by
  have hp : Try.prog.stoodInHeld 75 = false := by kernel_rfl
  have hu : Try.prog.underlying 75 = some (.struct (Try.prog.fieldsOf 75)) := by kernel_rfl
  show (Op.equalIn (9999 + 1) 75 (.agg _) (.agg _)).run Try.prog w = _
  rw [run_equalIn_struct w 9999 75 _ _ hu hp]
  have e : decide (a = b) = (a.side == b.side && (a.session == b.session && (a.number == b.number && a.data == b.data))) := by
    rw [Bool.eq_iff_iff]
    cases a; cases b
    simp
  rw [e]
  simp [go_sem, Program.fieldsOf, Try.underlying75, Op.eqFields, strV_toList]
  by_cases h1 : a.side = b.side <;> by_cases h2 : a.session = b.session <;> by_cases h3 : a.number = b.number <;> by_cases h4 : a.data = b.data <;> simp [h1, h2, h3, h4]

/-- The entries of a map that holds these keys. -/
def entries (L : List (Key × Nat)) : List MapEntry := L.map fun p => ⟨keyV p.1, .bool true, p.2⟩

set_option maxRecDepth 100000 in
theorem run_checkKey (e : Bool) (k : Key) (w : World) : (Instr.checkKey e 10000 75 (keyV k)).run Try.prog w = .ok () w := by
  have hu := Try.underlying75
  show (Instr.checkKey e (9998 + 1 + 1) 75 (.agg _)).run Try.prog w = _
  have k39 : ∀ (n : Nat) (x : Int) (w : World), (Instr.checkKey e (n + 1) 39 (.int .i64 x)).run Try.prog w = .ok () w := fun n x w => by simp [Instr.checkKey, run_underlying Try.underlying39]
  have k23 : ∀ (n : Nat) (x : Int) (w : World), (Instr.checkKey e (n + 1) 23 (.int .u32 x)).run Try.prog w = .ok () w := fun n x w => by simp [Instr.checkKey, run_underlying Try.underlying23]
  have k9 : ∀ (n : Nat) (x : ByteArray) (w : World), (Instr.checkKey e (n + 1) 9 (.string x)).run Try.prog w = .ok () w := fun n x w => by simp [Instr.checkKey, run_underlying Try.underlying9]
  generalize 9998 = n
  rw [Instr.checkKey]
  simp only [Sem.run_bind, run_underlying hu, Result.andThen_ok]
  rw [← Array.forIn_toList]
  simp [go_sem, k39, k23, k9]

/-- Where a key stands. -/
def at? (k : Key) : List (Key × Nat) → Nat → Option (Nat × Value)
  | [], _ => none
  | p :: r, i => if k = p.1 then some (i, .bool true) else at? k r (i + 1)

theorem run_findAsking (k : Key) (w : World) : ∀ (L : List (Key × Nat)) (i : Nat), (Instr.findAsking 75 (keyV k) (entries L) i).run Try.prog w = .ok (at? k L i) w := by
  intro L
  induction L with
  | nil => intro i; simp [entries, Instr.findAsking, at?]
  | cons p r ih =>
    intro i
    simp only [entries, List.map_cons, Instr.findAsking, Sem.run_bind, run_key_eq, Result.andThen_ok, at?]
    by_cases h : k = p.1
    · simp [h]
    · simp [h]; exact ih (i + 1)

theorem run_findKey (k : Key) (L : List (Key × Nat)) (w : World) : (Instr.findKey 75 (keyV k) (entries L)).run Try.prog w = .ok (at? k L 0) w := by
  rw [run_findKey_eq w (by kernel_rfl)]
  exact run_findAsking k w L 0

theorem at?_none {k : Key} : ∀ {L : List (Key × Nat)} {i : Nat}, k ∉ L.map (·.1) → at? k L i = none := by
  intro L
  induction L with
  | nil => intros; rfl
  | cons p r ih =>
    intro i h
    simp only [List.map_cons, List.mem_cons, not_or] at h
    simp only [at?, h.1, if_false]
    exact ih h.2

theorem at?_some {k : Key} : ∀ {L : List (Key × Nat)} {i : Nat}, k ∈ L.map (·.1) → ∃ j, at? k L i = some (i + j, .bool true) ∧ j < L.length ∧ (L[j]?).map (·.1) = some k := by
  intro L
  induction L with
  | nil => intro i h; simp at h
  | cons p r ih =>
    intro i h
    by_cases e : k = p.1
    · exact ⟨0, by simp [at?, e], by simp, by simp [e]⟩
    · simp only [List.map_cons, List.mem_cons, e, false_or] at h
      obtain ⟨j, h1, h2, h3⟩ := ih (i := i + 1) h
      exact ⟨j + 1, by simp only [at?, e, if_false]; rw [h1]; congr 2; omega, by simp; omega, by simpa using h3⟩

/-- Block b is a set of these keys. -/
def IsMap (w : World) (b : Nat) (ks : List Key) : Prop := ∃ (L : List (Key × Nat)) (ck : Nat), MapB w b (entries L).toArray ck ∧ (L.map (·.1)).Nodup ∧ (L.map (·.2)).Nodup ∧ (∀ p ∈ L, p.2 < ck) ∧ ∀ k, k ∈ L.map (·.1) ↔ k ∈ ks

theorem IsMap.keep {w w' : World} {b : Nat} {ks : List Key} {O : Nat → Prop} (h : IsMap w b ks) (k : Fr O w w') (hn : ¬ O b) : IsMap w' b ks :=
  let ⟨L, ck, h1, h2⟩ := h; ⟨L, ck, k.get h1 hn, h2⟩
theorem IsMap.lt {w : World} {b : Nat} {ks : List Key} (h : IsMap w b ks) : b < w.heap.size := let ⟨_, _, h, _⟩ := h; h.lt
theorem IsMap.congr {w : World} {b : Nat} {ks ks' : List Key} (h : IsMap w b ks) (e : ∀ k, k ∈ ks ↔ k ∈ ks') : IsMap w b ks' :=
  let ⟨L, ck, h1, h2, h3, h4, h5⟩ := h; ⟨L, ck, h1, h2, h3, h4, fun k => (h5 k).trans (e k)⟩

set_option maxRecDepth 100000 in
theorem run_lookup {w : World} {b : Nat} {ks : List Key} (h : IsMap w b ks) (k : Key) : (Instr.lookup 59 (.map (some b)) (keyV k) false).run Try.prog w = .ok (.bool (decide (k ∈ ks))) w := by
  obtain ⟨L, ck, h1, _, _, _, h5⟩ := h
  unfold MapB at h1
  have hz : (zeroValue 4).run Try.prog w = .ok (.bool false) w := by kernel_rfl
  unfold Instr.lookup
  simp only [Sem.run_bind, run_underlying Try.underlying59, Result.andThen_ok]
  simp only [MapKept.run_getObj_map h1, Result.andThen_ok, Sem.run_bind, run_checkKey, run_findKey, Sem.run_pure]
  by_cases hk : k ∈ ks
  · obtain ⟨j, e, _⟩ := at?_some (i := 0) ((h5 k).2 hk)
    rw [e]
    simp [hk, Sem.run_pure]
  · rw [at?_none (fun h => hk ((h5 k).1 h))]
    simp [hk, hz, Sem.run_pure, Sem.run_bind]

theorem same_key (k : Key) : Instr.sameBits 10000 (keyV k) (keyV k) = true := by
  show Instr.sameBits (9999 + 1) (.agg _) (.agg _) = true
  simp [Instr.sameBits, beq_toListBytes]

theorem setBlock_fr (w : World) (b : Nat) (o : Obj) : Fr (fun x => x = b) w { w with heap := w.heap.setIfInBounds b o } :=
  ⟨rfl, rfl, rfl, by simp, fun k hk hn => by show (w.heap.setIfInBounds b o)[k]? = _; rw [Array.getElem?_setIfInBounds_ne (fun e => hn e.symm)]⟩

theorem setBlock_get {w : World} {b : Nat} (o : Obj) (h : b < w.heap.size) : ({ w with heap := w.heap.setIfInBounds b o } : World).heap[b]? = some o := by
  show (w.heap.setIfInBounds b o)[b]? = _
  simp [h]

theorem entries_push (L : List (Key × Nat)) (k : Key) (n : Nat) : (entries L).toArray.push ⟨keyV k, .bool true, n⟩ = (entries (L ++ [(k, n)])).toArray := by
  simp [entries]

set_option maxRecDepth 100000 in
theorem run_update {w : World} {b : Nat} {ks : List Key} (h : IsMap w b ks) (k : Key) :
    ∃ w', (Instr.mapUpdate 59 (.map (some b)) (keyV k) (.bool true)).run Try.prog w = .ok () w' ∧ IsMap w' b (ks ++ [k]) ∧ Fr (fun x => x = b) w w' := by
  have hlt := h.lt
  obtain ⟨L, ck, h1, h2, h3, h4, h5⟩ := h
  unfold MapB at h1
  unfold Instr.mapUpdate
  simp only [Sem.run_bind, run_underlying Try.underlying59, Result.andThen_ok]
  simp only [MapKept.run_getObj_map h1, Result.andThen_ok, Sem.run_bind, run_checkKey, run_findKey, Sem.run_pure]
  by_cases hk : k ∈ ks
  · obtain ⟨j, e, hj, hjk⟩ := at?_some (i := 0) ((h5 k).2 hk)
    rw [e]
    have hjk' : (entries L)[j]? = some ⟨keyV k, .bool true, (L[j]'hj).2⟩ := by
      simp [hj] at hjk
      simp [entries, hj, hjk]
    have hmod : (entries L).toArray.modify j (fun e => { e with key := keyV k, val := .bool true }) = (entries L).toArray := by
      apply Array.ext_getElem?
      intro i
      rw [Array.getElem?_modify]
      by_cases hi : j = i
      · subst hi
        rw [if_pos rfl, List.getElem?_toArray, hjk']
        rfl
      · rw [if_neg hi]
    have hkey : (((entries L).toArray[j]?).map (·.key)).getD (keyV k) = keyV k := by rw [List.getElem?_toArray, hjk']; rfl
    simp only [Nat.zero_add, hkey, Instr.keyThatStays, same_key, if_true, Sem.run_pure, Result.andThen_ok, Sem.run_bind, MapKept.run_setObj_map _ h1, hmod]
    refine ⟨_, rfl, ⟨L, ck, setBlock_get _ hlt, h2, h3, h4, fun k' => ?_⟩, setBlock_fr _ _ _⟩
    rw [h5 k']
    simp only [List.mem_append, List.mem_singleton]
    constructor
    · exact fun h => .inl h
    · rintro (h | rfl)
      · exact h
      · exact hk
  · have hk' : k ∉ L.map (·.1) := fun h => hk ((h5 k).1 h)
    rw [at?_none hk']
    simp only [Sem.run_pure, Result.andThen_ok, Sem.run_bind, MapKept.run_setObj_map _ h1, entries_push]
    refine ⟨_, rfl, ⟨L ++ [(k, ck)], ck + 1, setBlock_get _ hlt, ?_, ?_, ?_, fun k' => ?_⟩, setBlock_fr _ _ _⟩
    · simp only [List.map_append, List.map_cons, List.map_nil]
      exact List.nodup_append.2 ⟨h2, by simp, by intro x hx y hy e; simp at hy; subst hy; subst e; exact hk' hx⟩
    · simp only [List.map_append, List.map_cons, List.map_nil]
      refine List.nodup_append.2 ⟨h3, by simp, ?_⟩
      intro x hx y hy e
      simp at hy
      subst hy; subst e
      obtain ⟨p, hp, hp2⟩ := List.mem_map.1 hx
      have := h4 p hp
      omega
    · intro p hp
      rcases List.mem_append.1 hp with hp | hp
      · have := h4 p hp; omega
      · simp at hp; subst hp; exact Nat.lt_succ_self _
    · simp only [List.map_append, List.map_cons, List.map_nil, List.mem_append, List.mem_singleton, h5 k']

end Go.Proofs.Ytmggfdhlbjlpjaa
