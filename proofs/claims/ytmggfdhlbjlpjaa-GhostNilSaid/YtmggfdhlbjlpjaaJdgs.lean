/-
  DERIVED. Two judges beside one another: the program's and the reference's.
-/
import Derived.Test.YtmggfdhlbjlpjaaNCopy
import Derived.Test.YtmggfdhlbjlpjaaOpen
namespace Go.Proofs.Ytmggfdhlbjlpjaa
open Go.RowKit
set_option linter.unusedSimpArgs false
set_option linter.unusedVariables false

/-- The program's judge at j is a, the reference's at jr is b; neither touches the other, nor X, nor what W5 has outside s1 .. s3. -/
def JSt (X : Nat → Prop) (s1 s3 : Nat) (W5 wr : World) (j jr : Nat) (a b : JP) (n : Nat) : Prop :=
  ∃ OJ OR : Nat → Prop, IsJ wr OJ j a ∧ IsR wr OR jr b n ∧ (∀ x, OJ x → ¬ OR x) ∧ (∀ x, OJ x ∨ OR x → (s1 ≤ x ∧ (x < s3 ∨ W5.heap.size ≤ x)) ∧ ¬ X x) ∧ Fr (fun x => s1 ≤ x ∧ x < s3) W5 wr

section
variable {X : Nat → Prop} {s1 s3 : Nat} {W5 wr W : World} {j jr : Nat} {a b : JP} {n : Nat}
theorem JSt.f (h : JSt X s1 s3 W5 wr j jr a b n) : Fr (fun x => s1 ≤ x ∧ x < s3) W5 wr := let ⟨_, _, _, _, _, _, f⟩ := h; f
theorem JSt.keep (h : JSt X s1 s3 W5 wr j jr a b n) (k : Fr No wr W) : JSt X s1 s3 W5 W j jr a b n :=
  let ⟨OJ, OR, h1, h2, h3, h4, h5⟩ := h; ⟨OJ, OR, h1.grow k, h2.grow k, h3, h4, h5.trans (k.no _)⟩
/-- A new block is nobody's. -/
theorem JSt.fresh (h : JSt X s1 s3 W5 wr j jr a b n) (o : Obj) : JSt (fun x => x = wr.heap.size) s1 s3 W5 (wr.alloc o) j jr a b n := by
  obtain ⟨OJ, OR, h1, h2, h3, h4, h5⟩ := h
  have k : Fr No wr (wr.alloc o) := (Fr.refl No wr).alloc o
  refine ⟨OJ, OR, h1.grow k, h2.grow k, h3, fun x hx => ⟨(h4 x hx).1, ?_⟩, h5.trans (k.no _)⟩
  rintro rfl
  rcases hx with hx | hx
  · exact absurd (h1.1 _ hx) (Nat.lt_irrefl _)
  · exact absurd (h2.1 _ hx) (Nat.lt_irrefl _)
theorem JSt.drop (h : JSt X s1 s3 W5 wr j jr a b n) : JSt No s1 s3 W5 wr j jr a b n :=
  let ⟨OJ, OR, h1, h2, h3, h4, h5⟩ := h; ⟨OJ, OR, h1, h2, h3, fun x hx => ⟨(h4 x hx).1, id⟩, h5⟩

theorem JSt.seeJ (h : JSt X s1 s3 W5 wr j jr a b n) (hX : ∀ x, X x → x < wr.heap.size) (f : FactP) (vf : Value) (N : Int) (O' : Nat → Prop) (hf : Bs wr O' vf f.data) (hO : ∀ x, O' x → x < s1 ∨ (s3 ≤ x ∧ x < W5.heap.size)) (hg : f.Good) (hok : a.Ok N) (hN : N ≤ 2000) (hat : 0 ≤ a.at_ ∧ a.at_ ≤ 2000) :
    Calls Try.prog 13 #[.pointer (some ⟨j, 0, none⟩), factV f vf] wr fun e w' => e = .returned (.agg #[.int .i64 (a.see f).rule, .int .i64 (a.see f).rat]) ∧ JSt X s1 s3 W5 w' j jr (a.see f) b n ∧ Fr (fun x => ¬ X x) wr w' := by
  obtain ⟨OJ, OR, h1, h2, h3, h4, h5⟩ := h
  refine (see_any OJ O' j a f vf N wr h1 hf (fun x hx ho => ?_) hg.len hg.ok hok hN hat).mono ?_
  · have := (h4 x (.inl ho)).1
    have := hO x hx
    omega
  · rintro e w' ⟨rfl, h6, k⟩
    have hsz := h5.size
    refine ⟨rfl, ⟨_, OR, h6, h2.keep k (fun x hx ho => h3 x ho hx), ?_, ?_, h5.more k fun x hx hlt => ?_⟩, k.wide fun x hx _ => (h4 x (.inl hx)).2⟩
    · rintro x (hx | hx)
      · exact h3 x hx
      · intro ho; have := h2.1 x ho; omega
    · rintro x ((hx | hx) | hx)
      · exact h4 x (.inl hx)
      · exact ⟨⟨by have := (h4 j (.inl h1.2.1)).1; have := h1.1 j h1.2.1; omega, .inr (by omega)⟩, fun hxx => by have := hX x hxx; omega⟩
      · exact h4 x (.inr hx)
    · have := (h4 x (.inl hx)).1; omega

theorem JSt.seeR (h : JSt X s1 s3 W5 wr j jr a b n) (hX : ∀ x, X x → x < wr.heap.size) (hn : n ≤ 4000) (f : FactP) (vf : Value) (N : Int) (O' : Nat → Prop) (hf : Bs wr O' vf f.data) (hO : ∀ x, O' x → x < s1 ∨ (s3 ≤ x ∧ x < W5.heap.size)) (hg : f.Good) (hok : b.Ok N) (hN : N ≤ 2000) (hat : 0 ≤ b.at_ ∧ b.at_ ≤ 2000) :
    Calls Try.prog 14 #[.pointer (some ⟨jr, 0, none⟩), factV f vf] wr fun e w' => e = .returned (.agg #[.int .i64 (b.see f).rule, .int .i64 (b.see f).rat]) ∧ JSt X s1 s3 W5 w' j jr a (b.see f) (n + 1) ∧ Fr (fun x => ¬ X x) wr w' := by
  obtain ⟨OJ, OR, h1, h2, h3, h4, h5⟩ := h
  refine (rsee_any OR O' jr b f vf N n wr h2 hf (fun x hx ho => ?_) hg.len hg.ok hok hN hat hn).mono ?_
  · have := (h4 x (.inr ho)).1
    have := hO x hx
    omega
  · rintro e w' ⟨rfl, h6, k⟩
    have hsz := h5.size
    refine ⟨rfl, ⟨OJ, _, h1.keep k (fun x hx ho => h3 x hx ho), h6, ?_, ?_, h5.more k fun x hx hlt => ?_⟩, k.wide fun x hx _ => (h4 x (.inr hx)).2⟩
    · rintro x hx (ho | ho)
      · exact h3 x hx ho
      · have := h1.1 x hx; omega
    · rintro x (hx | (hx | hx))
      · exact h4 x (.inl hx)
      · exact h4 x (.inr hx)
      · exact ⟨⟨by have := (h4 j (.inl h1.2.1)).1; have := h1.1 j h1.2.1; omega, .inr (by omega)⟩, fun hxx => by have := hX x hxx; omega⟩
    · have := (h4 x (.inr hx)).1; omega

theorem JSt.verdict (h : JSt X s1 s3 W5 wr j jr a b n) : Calls Try.prog 11 #[.pointer (some ⟨j, 0, none⟩)] wr fun e w' => e = .returned (.agg #[.int .i64 a.rule, .int .i64 a.rat]) ∧ Fr No wr w' :=
  let ⟨OJ, _, h1, _⟩ := h; verdict_any OJ j a wr h1
theorem JSt.rcells (h : JSt X s1 s3 W5 wr j jr a b n) : wr.cell? ⟨jr, 4, none⟩ = some (.int .i64 b.rule) ∧ wr.cell? ⟨jr, 5, none⟩ = some (.int .i64 b.rat) := by
  obtain ⟨_, _, _, h2, _⟩ := h
  obtain ⟨_, c, d, _⟩ := rsee_mid h2 rfl rfl rfl
  exact ⟨c, d⟩
end

end Go.Proofs.Ytmggfdhlbjlpjaa
