/-
  DERIVED. The walk of the reference's rule, whole.
-/
import Derived.Test.YtmggfdhlbjlpjaaRRa
import Derived.Test.YtmggfdhlbjlpjaaRRb
import Derived.Test.YtmggfdhlbjlpjaaRRs
import Derived.Test.YtmggfdhlbjlpjaaRRu
import Derived.Test.YtmggfdhlbjlpjaaRRv
namespace Go.Proofs.Ytmggfdhlbjlpjaa
open Go.RowKit
set_option linter.unusedSimpArgs false
set_option linter.unusedVariables false

set_option maxRecDepth 1000000 in
set_option maxHeartbeats 8000000 in
theorem rrule_out (j n cap : Nat) (a : Option Addr) (f : FactP) (vf : Value) (w : World) (hj : w.cell? ⟨j, 0, none⟩ = some (.slice a n cap)) (hf : ∃ a' c', vf = .slice a' f.data.length c') (hn : ¬ f.In n) :
    Calls Try.prog 19 #[.pointer (some ⟨j, 0, none⟩), factV f vf] w fun e w' => e = .returned (.int .i64 1) ∧ Fr No w w' := by
  obtain ⟨kind, conn, side, sess, number, on, code, data⟩ := f
  obtain ⟨a', cap', rfl⟩ := hf
  unfold FactP.In at hn
  dsimp only at hn
  show Calls Try.prog 19 #[.pointer (some ⟨j, 0, none⟩), .agg #[.int .i64 kind, .int .i64 conn, .int .i64 side, .int .u32 sess, .int .u32 number, .bool on, .int .i64 code, .slice a' data.length cap']] w _
  have hltj := lt_of_cell? hj
  dsimp only at hltj
  have K0 : Fr No w (w.alloc (.cells #[.int .i64 kind, .int .i64 conn, .int .i64 side, .int .u32 sess, .int .u32 number, .bool on, .int .i64 code, .slice a' data.length cap'] 43)) := (Fr.refl No w).alloc _
  have HK := Lib.hid K0
  clear K0
  by_cases h1 : kind < 1
  · have h1' : decide (kind < 1) = true := by simpa using h1
    clear hn
    go_enter Try.func19, Try.ntmps19
    go_wp2
    go_quiet (fail)
    go_wp2
    go_ret
    exact ⟨rfl, HK.out.drewN _⟩
  · have h1' : decide (kind < 1) = false := by simpa using h1
    by_cases h2 : 8 < kind
    · have h2' : decide (8 < kind) = true := by simpa using h2
      clear hn
      go_enter Try.func19, Try.ntmps19
      go_wp2
      go_quiet (fail)
      go_wp2
      go_ret
      exact ⟨rfl, HK.out.drewN _⟩
    · have h2' : decide (8 < kind) = false := by simpa using h2
      by_cases h3 : conn < 0
      · have h3' : decide (conn < 0) = true := by simpa using h3
        clear hn
        go_enter Try.func19, Try.ntmps19
        go_wp2
        go_quiet (fail)
        go_wp2
        go_ret
        exact ⟨rfl, HK.out.drewN _⟩
      · have h3' : decide (conn < 0) = false := by simpa using h3
        by_cases h4 : (n : Int) ≤ conn
        · have h4' : decide ((n : Int) ≤ conn) = true := by simpa using h4
          clear hn
          go_enter Try.func19, Try.ntmps19
          go_wp2
          go_quiet (fail)
          go_wp2
          go_ret
          exact ⟨rfl, HK.out.drewN _⟩
        · have h4' : decide ((n : Int) ≤ conn) = false := by simpa using h4
          by_cases h5 : side < 1
          · have h5' : decide (side < 1) = true := by simpa using h5
            clear hn
            go_enter Try.func19, Try.ntmps19
            go_wp2
            go_quiet (fail)
            go_wp2
            go_ret
            exact ⟨rfl, HK.out.drewN _⟩
          · have h5' : decide (side < 1) = false := by simpa using h5
            have h6 : decide (2 < side) = true := by simp; omega
            clear hn
            go_enter Try.func19, Try.ntmps19
            go_wp2
            go_quiet (fail)
            go_wp2
            go_ret
            exact ⟨rfl, HK.out.drewN _⟩

/-- The place of an end in its block. -/
def eo (s : Int) : Nat := if s = 1 then 0 else 11

theorem REndCs.congr {cs cs' : Array Value} {o : Nat} {x : EndP} {h : Bool} (hc : REndCs cs o x h) (e : ∀ k, o ≤ k → k < o + 11 → cs'[k]? = cs[k]?) : REndCs cs' o x h := by
  intro k hk
  rw [e (o + k) (by omega) (by omega)]
  exact hc k hk

theorem sees_sent (l : LineP) (f : FactP) (h : f.kind = 2 ∨ 4 ≤ f.kind) : (l.see f).1.sent = l.sent ∧ (l.see f).1.session = l.session := by
  unfold LineP.see
  have h1 : ¬ f.kind = 1 := by omega
  have h3 : ¬ f.kind = 3 := by omega
  simp only [h1, h3, if_false]
  have key : ∀ s e, (l.setEnd s e).sent = l.sent ∧ (l.setEnd s e).session = l.session := fun s e => by unfold LineP.setEnd; split <;> exact ⟨rfl, rfl⟩
  split
  · dsimp only
    split
    · exact key _ _
    · exact ⟨rfl, rfl⟩
  split
  · exact key _ _
  split
  · exact key _ _
  split
  · exact key _ _
  split
  · exact key _ _
  · dsimp only
    split
    · exact key _ _
    · exact ⟨rfl, rfl⟩

theorem SentOk.set {S : List FactP} {L : List LineP} (h : SentOk S L) (i : Nat) (hi : i < L.length) (l' : LineP) (hs : l'.sent = L[i].sent) : SentOk S (L.set i l') := by
  refine ⟨h.1, fun m hm k => ?_⟩
  have hm' : m < L.length := by simpa using hm
  rw [← h.2 m hm' k]
  by_cases e : i = m
  · subst e; simp [hs]
  · simp [e]

theorem SentOk.push {S : List FactP} {L : List LineP} (h : SentOk S L) (i : Nat) (hi : i < L.length) (f : FactP) (hc : f.conn = i) (hs : f.side = 1 ∨ f.side = 2) (l' : LineP) (hl : l'.sent = L[i].sent ++ [f.key f.side]) : SentOk (S ++ [f.sent]) (L.set i l') := by
  refine ⟨fun s h' => ?_, fun m hm k => ?_⟩
  · rcases List.mem_append.1 h' with h' | h'
    · exact h.1 s h'
    · rw [List.mem_singleton.1 h']; exact hs
  · have hm' : m < L.length := by simpa using hm
    have hcs : f.sent.conn = (i : Int) := hc
    by_cases e : i = m
    · subst e
      have : (L.set i l')[i]'hm = l' := by simp
      rw [this, hl, List.mem_append, h.2 i hm' k, List.mem_singleton]
      constructor
      · rintro (⟨s, h1, h2⟩ | h1)
        · exact ⟨s, List.mem_append.2 (.inl h1), h2⟩
        · exact ⟨f.sent, List.mem_append.2 (.inr (List.mem_singleton.2 rfl)), hcs, h1.symm⟩
      · rintro ⟨s, h1, h2, h3⟩
        rcases List.mem_append.1 h1 with h1 | h1
        · exact .inl ⟨s, h1, h2, h3⟩
        · rw [List.mem_singleton.1 h1] at h3; exact .inr h3.symm
    · have : (L.set i l')[m]'hm = L[m] := by simp [e]
      rw [this, h.2 m hm' k]
      constructor
      · rintro ⟨s, h1, h2⟩; exact ⟨s, List.mem_append.2 (.inl h1), h2⟩
      · rintro ⟨s, h1, h2, h3⟩
        rcases List.mem_append.1 h1 with h1 | h1
        · exact ⟨s, h1, h2, h3⟩
        · rw [List.mem_singleton.1 h1, hcs] at h2
          exact absurd (by omega) e

theorem SentOk.cut {S : List FactP} {L : List LineP} (h : SentOk S L) (i : Nat) (hi : i < L.length) (f : FactP) (hc : f.conn = i) (l' : LineP) (hl : l'.sent = L[i].sent.filter fun k => !(k.side == 1 && k.session == f.session)) : SentOk (S.filter f.stays) (L.set i l') := by
  refine ⟨fun s h' => h.1 s (List.mem_filter.1 h').1, fun m hm k => ?_⟩
  have hm' : m < L.length := by simpa using hm
  by_cases e : i = m
  · subst e
    have : (L.set i l')[i]'hm = l' := by simp
    rw [this, hl, List.mem_filter, h.2 i hm' k]
    constructor
    · rintro ⟨⟨s, h1, h2, h3⟩, h4⟩
      refine ⟨s, List.mem_filter.2 ⟨h1, ?_⟩, h2, h3⟩
      subst h3
      unfold FactP.stays
      rw [h2, hc]
      simpa [FactP.key] using h4
    · rintro ⟨s, h1, h2, h3⟩
      obtain ⟨h1, h4⟩ := List.mem_filter.1 h1
      refine ⟨⟨s, h1, h2, h3⟩, ?_⟩
      subst h3
      unfold FactP.stays at h4
      rw [h2, hc] at h4
      simpa [FactP.key] using h4
  · have : (L.set i l')[m]'hm = L[m] := by simp [e]
    rw [this, h.2 m hm' k]
    constructor
    · rintro ⟨s, h1, h2, h3⟩
      refine ⟨s, List.mem_filter.2 ⟨h1, ?_⟩, h2, h3⟩
      unfold FactP.stays
      have : (s.conn == f.conn) = false := by rw [h2, hc]; simp; omega
      rw [this]; rfl
    · rintro ⟨s, h1, h2⟩; exact ⟨s, (List.mem_filter.1 h1).1, h2⟩

/-- Has the other end sent it? -/
theorem meets_key {S : List FactP} {L : List LineP} (h : SentOk S L) (i : Nat) (hi : i < L.length) (f : FactP) (hc : f.conn = i) (hs : f.side = 1 ∨ f.side = 2) : S.any f.meets = true ↔ f.key (3 - f.side) ∈ L[i].sent := by
  rw [h.2 i hi, List.any_eq_true]
  constructor
  · rintro ⟨s, h1, h2⟩
    unfold FactP.meets at h2
    simp only [Bool.and_eq_true, beq_iff_eq, bne_iff_ne, decide_eq_true_eq] at h2
    obtain ⟨a, b, c, d, e⟩ := h2
    refine ⟨s, h1, by rw [a, hc], ?_⟩
    have h3 := h.1 s h1
    unfold FactP.key
    rw [c, d, e]
    congr 1
    omega
  · rintro ⟨s, h1, h2, h3⟩
    refine ⟨s, h1, ?_⟩
    unfold FactP.key at h3
    injection h3 with a b c d
    unfold FactP.meets
    simp only [Bool.and_eq_true, beq_iff_eq, bne_iff_ne, decide_eq_true_eq]
    exact ⟨by rw [h2, hc], by omega, b, c, d⟩

theorem line_eta (l : LineP) (f : FactP) (x' : EndP) (h : (l.see f).1 = { l with e0 := x' }) : (l.see f).1.e1 = l.e1 := by rw [h]

/-- One line's ends are others. -/
theorem REnds.put {w w' : World} {O : Nat → Prop} {L : List LineP} {cap : Nat} {q : Nat} {cs : Array Value} {eb : Nat → Nat} (hq : O q) (hb : Blk w q cs 69)
    (hi : ∀ i (h : i < L.length), (∃ c, cs[i]? = some (.slice (some ⟨eb i, 0, none⟩) 2 c)) ∧ RLine w O (eb i) L[i]) (hinj : ∀ i k, i < L.length → k < L.length → eb i = eb k → i = k)
    (i : Nat) (hlt : i < L.length) (l' : LineP) (k : Fr (fun b => b = eb i) w w') (hl : RLine w' (Grow O w w') (eb i) l') : REnds w' (Grow O w w') (.slice (some ⟨q, 0, none⟩) L.length cap) (L.set i l') := by
  have hqe : q ≠ eb i := by
    obtain ⟨_, cs', _, _, hb', _⟩ := (hi i hlt).2
    exact hb.unlike hb' (by decide)
  refine ⟨_, cap, by simp, fun _ => ⟨q, cs, eb, rfl, .inl hq, k.blk hb hqe, fun m hm => ?_, fun a b ha hb => hinj a b (by simpa using ha) (by simpa using hb)⟩⟩
  have hm' : m < L.length := by simpa using hm
  refine ⟨(hi m hm').1, ?_⟩
  by_cases e : i = m
  · subst e
    have : (L.set i l')[i]'hm = l' := by simp
    rw [this]; exact hl
  · have : (L.set i l')[m]'hm = L[m] := by simp [e]
    rw [this]
    exact (hi m hm').2.keep k (fun h => e (hinj _ _ hlt hm' h.symm)) fun _ h => .inl h

theorem RSess.set {w : World} {O : Nat → Prop} {v : Value} {L : List LineP} (h : RSess w O v L) (i : Nat) (hi : i < L.length) (l' : LineP) (hs : l'.session = L[i].session) : RSess w O v (L.set i l') := by
  obtain ⟨a, cap, hv, h⟩ := h
  refine ⟨a, cap, by simpa using hv, fun hl => ?_⟩
  obtain ⟨q, cs, ha, hq, hb, hc⟩ := h (by simpa using hl)
  refine ⟨q, cs, ha, hq, hb, fun m hm => ?_⟩
  have hm' : m < L.length := by simpa using hm
  rw [hc m hm']
  by_cases e : i = m
  · subst e
    have : (L.set i l')[i]'hm = l' := by simp
    rw [this, hs]
  · have : (L.set i l')[m]'hm = L[m] := by simp [e]
    rw [this]

/-- An end of line i is another: what a call on it leaves is a judge. -/
theorem IsR.put {w w' : World} {O : Nat → Prop} {j n i : Nat} {st : JP} {q qs cap sc : Nat} {vst : Value} {cs69 : Array Value} {eb : Nat → Nat} {S : List FactP} {l' : LineP} (hO : ∀ b, O b → b < w.heap.size) (hoj : O j) (hj : Blk w j (rCells (.slice (some ⟨q, 0, none⟩) st.lines.length cap) (.slice (some ⟨qs, 0, none⟩) st.lines.length sc) vst st) 48)
    (hq : O q) (hb : Blk w q cs69 69) (hi : ∀ i (h : i < st.lines.length), (∃ c, cs69[i]? = some (.slice (some ⟨eb i, 0, none⟩) 2 c)) ∧ RLine w O (eb i) st.lines[i]) (hinj : ∀ i k, i < st.lines.length → k < st.lines.length → eb i = eb k → i = k)
    (hs : RSess w O (.slice (some ⟨qs, 0, none⟩) st.lines.length sc) st.lines) (hS : Srow w 0 O vst S) (hok : SentOk S st.lines) (hn : S.length ≤ n) (hlt : i < st.lines.length) (hl1 : l'.sent = st.lines[i].sent) (hl2 : l'.session = st.lines[i].session)
    (k : Fr (fun b => b = eb i) w w') (hl : RLine w' (Grow O w w') (eb i) l') : IsR w' (Grow O w w') j { st with lines := st.lines.set i l' } n := by
  have hbe : ∃ cs', Blk w (eb i) cs' 68 := by obtain ⟨_, cs', _, _, h, _⟩ := (hi i hlt).2; exact ⟨cs', h⟩
  obtain ⟨cs', hbe⟩ := hbe
  have un : ∀ {b : Nat} {c : Array Value} {t : TypeId}, t ≠ 68 → Blk w b c t → ¬ b = eb i := fun ht hb => hb.unlike hbe ht
  refine ⟨?_, .inl hoj, _, _, vst, S, k.blk hj (un (by decide) hj), ?_, ?_, ?_, hok.set i hlt l' hl1, hn⟩
  · rintro b (hb | hb)
    · exact Nat.lt_of_lt_of_le (hO b hb) k.size
    · exact hb.2
  · exact REnds.put hq hb hi hinj i hlt l' k hl
  · exact (hs.keep k (fun b c _ h => un (by decide) h) fun _ h => .inl h).set i hlt l' hl2
  · exact hS.keep k (fun b c _ h => un (by decide) h) (fun b c _ h => un (by decide) h) fun b h _ => .inl h

theorem RLine.to0 {w w' : World} {O : Nat → Prop} {b : Nat} {cs : Array Value} {l : LineP} {h1 h' : Bool} {x' : EndP} (ho : O b) (hE1 : REndCs cs 11 l.e1 h1) (hh1 : h1 = false → l.e1.value = []) (k : REndTo w w' b cs 0 x' h') (hh : h' = false → x'.value = []) : RLine w' (Grow O w w') b { l with e0 := x' } := by
  obtain ⟨cs', a, b', c, d⟩ := k
  exact ⟨.inl ho, cs', h', h1, a, b', hE1.congr (fun k h _ => c k (by omega)), hh, hh1⟩
theorem RLine.to1 {w w' : World} {O : Nat → Prop} {b : Nat} {cs : Array Value} {l : LineP} {h0 h' : Bool} {x' : EndP} (ho : O b) (hE0 : REndCs cs 0 l.e0 h0) (hh0 : h0 = false → l.e0.value = []) (k : REndTo w w' b cs 11 x' h') (hh : h' = false → x'.value = []) : RLine w' (Grow O w w') b { l with e1 := x' } := by
  obtain ⟨cs', a, b', c, d⟩ := k
  exact ⟨.inl ho, cs', h0, h', a, hE0.congr (fun k _ h => c k (by omega)), b', hh0, hh⟩

end Go.Proofs.Ytmggfdhlbjlpjaa
