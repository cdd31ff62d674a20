/-
  DERIVED. GhostNil: what is left of a copy whose data is spoilt fact by fact.
-/
import Derived.Test.YtmggfdhlbjlpjaaJdgs
namespace Go.Proofs.Ytmggfdhlbjlpjaa
open Go.RowKit
set_option linter.unusedSimpArgs false
set_option linter.unusedVariables false

/-- Below the judges' blocks anything may change. -/
theorem JSt.rebase {X C : Nat → Prop} {s1 s3 : Nat} {W5 wr W : World} {j jr : Nat} {a b : JP} {n : Nat} (h : JSt X s1 s3 W5 wr j jr a b n) (k : Fr C wr W) (hC : ∀ x, C x → x < s1) : JSt No s1 W.heap.size W W j jr a b n := by
  obtain ⟨OJ, OR, h1, h2, h3, h4, h5⟩ := h
  refine ⟨OJ, OR, h1.keep k fun x hx hc => ?_, h2.keep k fun x hx hc => ?_, h3, fun x hx => ⟨⟨(h4 x hx).1.1, .inl ?_⟩, id⟩, Fr.refl _ _⟩
  · have := (h4 x (.inl hx)).1.1; have := hC x hc; omega
  · have := (h4 x (.inr hx)).1.1; have := hC x hc; omega
  · rcases hx with hx | hx
    · exact Nat.lt_of_lt_of_le (h1.1 x hx) k.size
    · exact Nat.lt_of_lt_of_le (h2.1 x hx) k.size

/-- Facts from k on have their data still. -/
def Left (W : World) (base s1 g : Nat) (cur : Array Value) (vs : Nat → Value) (D : Nat → Nat) (l : List FactP) (k : Nat) : Prop :=
  Blk W g cur 43 ∧ ∀ i (h : i < l.length), k ≤ i → Ob W (fun b => b = D i ∧ base ≤ b ∧ b < s1) (vs i) l[i].data

section
variable {W W' : World} {base s1 g : Nat} {cur : Array Value} {vs : Nat → Value} {D : Nat → Nat} {l : List FactP} {k : Nat} {C : Nat → Prop}
theorem Left.keep (h : Left W base s1 g cur vs D l k) (kk : Fr C W W') (hC : ∀ b, C b → s1 ≤ b) (hg : g < s1) : Left W' base s1 g cur vs D l k :=
  ⟨kk.blk h.1 fun hc => by have := hC g hc; omega, fun i hi hk => (h.2 i hi hk).keep kk fun b hb hc => by have := hC b hc; have := hb.2.2; omega⟩

theorem Left.next (h : Left W base s1 g cur vs D l k) (hk : k < l.length) (hinj : ∀ i m, i < l.length → m < l.length → D i = D m → i = m) (kk : Fr (fun b => 0 < l[k].data.length ∧ b = D k) W W') : Left W' base s1 g cur vs D l (k + 1) := by
  refine ⟨kk.blk h.1 ?_, fun i hi hki => (h.2 i hi (by omega)).keep kk ?_⟩
  · rintro ⟨hp, e⟩
    obtain ⟨a, c, _, _, hr⟩ := h.2 k hk (Nat.le_refl _)
    obtain ⟨b, cc, _, hb, hB, _⟩ := hr hp
    exact h.1.unlike hB (by decide) (e.trans hb.1.symm)
  · rintro b hb ⟨_, e⟩
    have := hinj i k hi hk (hb.1.symm.trans e)
    omega
end

/-- The row of data, whatever is in it. -/
def DRow (W : World) (d n : Nat) (a : Option Addr) : Prop := 0 < n → a = some ⟨d, 0, none⟩ ∧ ∃ cur, Blk W d cur 5 ∧ ∀ i, i < n → ∃ z : Int, cur[i]? = some (.int .u8 z)
theorem DRow.set {W : World} {d n : Nat} {a : Option Addr} (h : DRow W d n a) (x : Nat) (z : Int) : DRow (W.setCell ⟨d, x, none⟩ (.int .u8 z)) d n a := by
  intro hn
  obtain ⟨h1, cur, h2, h3⟩ := h hn
  refine ⟨h1, _, h2.set x _, fun i hi => ?_⟩
  by_cases e : x = i
  · subst e
    obtain ⟨z', hz⟩ := h3 x hi
    refine ⟨z, ?_⟩
    have hlt : x < cur.size := by
      rcases Nat.lt_or_ge x cur.size with h | h
      · exact h
      · rw [Array.getElem?_eq_none h] at hz; cases hz
    simp [hlt]
  · obtain ⟨z', hz⟩ := h3 i hi
    exact ⟨z', by rw [Array.getElem?_setIfInBounds_ne e]; exact hz⟩
theorem DRow.of {W : World} {base s1 d : Nat} {a : Option Addr} {c : Nat} {l : List UInt8} (h : Ob W (fun b => b = d ∧ base ≤ b ∧ b < s1) (.slice a l.length c) l) : DRow W d l.length a := by
  obtain ⟨a', c', e, _, hr⟩ := h
  cases e
  intro hn
  obtain ⟨b, cur, h1, h2, h3, h4⟩ := hr hn
  obtain ⟨rfl, _⟩ := h2
  exact ⟨h1, cur, h3, fun i hi => ⟨_, h4 i hi⟩⟩
theorem round_lt2 {n k : Nat} {x : Int} (h : x = (k : Int) + 1) (hm : n - (k + 1) < n - k) : n - (intOf (.int .i64 x)).toNat < n - (intOf (.int .i64 (k : Int))).toNat := by
  subst h
  have e : ((k : Int) + 1).toNat = k + 1 := by omega
  show n - ((k : Int) + 1).toNat < n - ((k : Int)).toNat
  rw [e, Int.toNat_natCast]
  exact hm
theorem lone_net : NetOk ([10].zip [10]) := aw_net

end Go.Proofs.Ytmggfdhlbjlpjaa
