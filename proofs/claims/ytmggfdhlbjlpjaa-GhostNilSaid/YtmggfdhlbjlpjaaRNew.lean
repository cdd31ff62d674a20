/-
  DERIVED. The walk of the reference's New. (Printed by rnew.py.)
-/
import Derived.Test.YtmggfdhlbjlpjaaRSee
import Derived.Test.YtmggfdhlbjlpjaaNew
namespace Go.Proofs.Ytmggfdhlbjlpjaa
open Go.RowKit
set_option linter.unusedSimpArgs false
set_option linter.unusedVariables false

def rendRow (x y : Int) : Array Value := (rendCells (EndP.new x) false ++ rendCells (EndP.new y) false).toArray
def ecells (eb : Nat → Nat) (k : Nat) : List Value := (List.range k).map fun i => .slice (some ⟨eb i, 0, none⟩) 2 2
theorem ecells_succ (eb : Nat → Nat) (k : Nat) : ecells eb (k + 1) = ecells eb k ++ [.slice (some ⟨eb k, 0, none⟩) 2 2] := by unfold ecells; rw [List.range_succ, List.map_append]; rfl
theorem ecells_congr {eb eb' : Nat → Nat} (k : Nat) (h : ∀ i, i < k → eb i = eb' i) : ecells eb k = ecells eb' k := by
  unfold ecells
  refine List.map_congr_left fun i hi => ?_
  rw [h i (List.mem_range.1 hi)]
theorem ecells_get (eb : Nat → Nat) (k i : Nat) (h : i < k) : (ecells eb k)[i]? = some (.slice (some ⟨eb i, 0, none⟩) 2 2) := by unfold ecells; simp [h]

theorem Try.info69 : (Try.prog.info? 69).map (fun i => (i.zero, i.size, i.bytes)) = some (some (.slice none 0 0), 1, 24) := by kernel_rfl
theorem Try.info23 : (Try.prog.info? 23).map (fun i => (i.zero, i.size, i.bytes)) = some (some (.int .u32 0), 1, 4) := by kernel_rfl

/-- On the way: ke lines' ends and ks sessions are laid. -/
structure RNewSt (w wr : World) (bx : Array Value) (wh wd : List Int) (ke ks : Nat) (ve vse : Value) (eb : Nat → Nat) : Prop where
  j : Blk wr (w.heap.size + 1) #[ve, vse, .slice none 0 0, .int .i64 0, .int .i64 0, .int .i64 0] 48
  re : wr.ownsRow w.heap.size 69 1 ve ke (ecells eb ke)
  rs : wr.ownsRow w.heap.size 23 1 vse ks (List.replicate ks (.int .u32 0))
  ends : ∀ i, i < ke → Blk wr (eb i) (rendRow (wh.getD i 0) (wd.getD i 0)) 68 ∧ w.heap.size ≤ eb i
  inj : ∀ i m, i < ke → m < ke → eb i = eb m → i = m
  f : Fr No w wr
  box : Blk wr w.heap.size bx 25

section
variable {w wr W w1 : World} {bx : Array Value} {wh wd : List Int} {ke ks : Nat} {ve vse v' : Value} {eb : Nat → Nat}
theorem RNewSt.keep (h : RNewSt w wr bx wh wd ke ks ve vse eb) (k : Fr No wr W) : RNewSt w W bx wh wd ke ks ve vse eb :=
  ⟨k.blk h.j id, owns_keep h.re fun g hg => k.block g (owns_block h.re hg).2.choose_spec.lt id, owns_keep h.rs fun g hg => k.block g (owns_block h.rs hg).2.choose_spec.lt id,
    fun i hi => ⟨k.blk (h.ends i hi).1 id, (h.ends i hi).2⟩, h.inj, h.f.trans k, k.blk h.box id⟩

theorem RNewSt.start (w : World) (bx : Array Value) (wh wd : List Int) : RNewSt w ((w.alloc (.cells bx 25)).alloc (.cells #[.slice none 0 0, .slice none 0 0, .slice none 0 0, .int .i64 0, .int .i64 0, .int .i64 0] 48)) bx wh wd 0 0 (.slice none 0 0) (.slice none 0 0) (fun _ => 0) := by
  refine ⟨?_, ⟨rfl, .inl ⟨rfl, rfl⟩⟩, ⟨rfl, .inl ⟨rfl, rfl⟩⟩, fun i h => by omega, fun i m h => by omega, ((Fr.refl No w).alloc _).alloc _, ?_⟩
  · have := Blk.new (w.alloc (.cells bx 25)) #[.slice none 0 0, .slice none 0 0, .slice none 0 0, .int .i64 0, .int .i64 0, .int .i64 0] 48
    simpa using this
  · exact ((Fr.refl No _).alloc _).blk (Blk.new w _ _) id

theorem RNewSt.mid1 (h : RNewSt w wr bx wh wd ke ks ve vse eb) (hgrow : wr.grownBy w1 ve.ownBlock) : Blk w1 (w.heap.size + 1) #[ve, vse, .slice none 0 0, .int .i64 0, .int .i64 0, .int .i64 0] 48 :=
  (grown_fr hgrow).blk h.j fun e => by
    obtain ⟨_, cur, hc⟩ := owns_block h.re e.symm
    exact h.j.unlike hc (by decide) rfl
theorem RNewSt.mid2 (h : RNewSt w wr bx wh wd ke ks ve vse eb) (hgrow : wr.grownBy w1 vse.ownBlock) : Blk w1 (w.heap.size + 1) #[ve, vse, .slice none 0 0, .int .i64 0, .int .i64 0, .int .i64 0] 48 :=
  (grown_fr hgrow).blk h.j fun e => by
    obtain ⟨_, cur, hc⟩ := owns_block h.rs e.symm
    exact h.j.unlike hc (by decide) rfl

theorem RNewSt.step1 (h : RNewSt w wr bx wh wd ke ks ve vse eb) (kW : Fr No wr W) {B : Nat} {x y : Int} (hb : Blk W B (rendRow x y) 68) (hB : wr.heap.size ≤ B) (hx : wh.getD ke 0 = x) (hy : wd.getD ke 0 = y)
    (hown1 : w1.ownsRow w.heap.size 69 1 v' (ke + 1) (ecells eb ke ++ [.slice (some ⟨B, 0, none⟩) 2 2])) (hgrow : W.grownBy w1 ve.ownBlock) :
    RNewSt w (w1.setCell ⟨w.heap.size + 1, 0, none⟩ v') bx wh wd (ke + 1) ks v' vse (fun i => if i = ke then B else eb i) := by
  have hW := h.keep kW
  have k2 := grown_fr hgrow
  have un2 : ∀ {b : Nat} {c : Array Value} {t : TypeId}, t ≠ 69 → Blk W b c t → ¬ some b = ve.ownBlock := by
    intro b c t ht hb e
    obtain ⟨_, cur, hc⟩ := owns_block hW.re e.symm
    exact hb.unlike hc ht rfl
  have jb := hW.mid1 hgrow
  have k4 : Fr (fun b => b = w.heap.size + 1) w1 (w1.setCell ⟨w.heap.size + 1, 0, none⟩ v') := (Fr.refl (fun b => b = w.heap.size + 1) w1).setCell (p := ⟨w.heap.size + 1, 0, none⟩) (fun _ => rfl) _
  have un4 : ∀ {b : Nat} {c : Array Value} {t : TypeId}, t ≠ 48 → Blk w1 b c t → ¬ b = w.heap.size + 1 := fun ht hb => hb.unlike jb ht
  have hE : ∀ {b : Nat} {c : Array Value} {t : TypeId}, t ≠ 69 → t ≠ 48 → Blk W b c t → Blk (w1.setCell ⟨w.heap.size + 1, 0, none⟩ v') b c t := fun h1 h2 hb => k4.blk (k2.blk hb (un2 h1 hb)) (un4 h2 (k2.blk hb (un2 h1 hb)))
  have hsz : w.heap.size ≤ wr.heap.size := h.f.size
  refine ⟨jb.set' 0 _ rfl, ?_, ?_, ?_, ?_, ?_, hE (by decide) (by decide) hW.box⟩
  · rw [ecells_succ, if_pos rfl, ecells_congr ke (eb' := eb) fun i hi => by simp; omega]
    refine owns_keep hown1 fun g' hg => k4.block g' (owns_block hown1 hg).2.choose_spec.lt ?_
    exact un4 (by decide) (owns_block hown1 hg).2.choose_spec
  · refine owns_keep hW.rs fun g hg => ?_
    obtain ⟨_, cur, hc⟩ := owns_block hW.rs hg
    exact Eq.trans (hE (by decide) (by decide) hc) (Eq.symm hc)
  · intro i hi
    by_cases hik : i = ke
    · subst hik
      simp only [if_true]
      rw [hx, hy]
      exact ⟨hE (by decide) (by decide) hb, by omega⟩
    · simp only [hik, if_false]
      have := hW.ends i (by omega)
      exact ⟨hE (by decide) (by decide) this.1, this.2⟩
  · intro i m hi hm
    by_cases h1 : i = ke <;> by_cases h2 : m = ke <;> simp only [h1, h2, if_true, if_false]
    · intro _; omega
    · intro e; have := (h.ends m (by omega)).1.lt; omega
    · intro e; have := (h.ends i (by omega)).1.lt; omega
    · exact h.inj i m (by omega) (by omega)
  · have f1 : Fr No w w1 := hW.f.more k2 fun b hb hlt => by
      have := (owns_block hW.re hb.symm).1
      omega
    exact f1.more k4 (by rintro b rfl hb; omega)

theorem RNewSt.step2 (h : RNewSt w wr bx wh wd ke ks ve vse eb) (kW : Fr No wr W)
    (hown1 : w1.ownsRow w.heap.size 23 1 v' (ks + 1) (List.replicate ks (.int .u32 0) ++ [.int .u32 0])) (hgrow : W.grownBy w1 vse.ownBlock) :
    RNewSt w (w1.setCell ⟨w.heap.size + 1, 1, none⟩ v') bx wh wd ke (ks + 1) ve v' eb := by
  have hW := h.keep kW
  have k2 := grown_fr hgrow
  have un2 : ∀ {b : Nat} {c : Array Value} {t : TypeId}, t ≠ 23 → Blk W b c t → ¬ some b = vse.ownBlock := by
    intro b c t ht hb e
    obtain ⟨_, cur, hc⟩ := owns_block hW.rs e.symm
    exact hb.unlike hc ht rfl
  have jb := hW.mid2 hgrow
  have k4 : Fr (fun b => b = w.heap.size + 1) w1 (w1.setCell ⟨w.heap.size + 1, 1, none⟩ v') := (Fr.refl (fun b => b = w.heap.size + 1) w1).setCell (p := ⟨w.heap.size + 1, 1, none⟩) (fun _ => rfl) _
  have un4 : ∀ {b : Nat} {c : Array Value} {t : TypeId}, t ≠ 48 → Blk w1 b c t → ¬ b = w.heap.size + 1 := fun ht hb => hb.unlike jb ht
  have hE : ∀ {b : Nat} {c : Array Value} {t : TypeId}, t ≠ 23 → t ≠ 48 → Blk W b c t → Blk (w1.setCell ⟨w.heap.size + 1, 1, none⟩ v') b c t := fun h1 h2 hb => k4.blk (k2.blk hb (un2 h1 hb)) (un4 h2 (k2.blk hb (un2 h1 hb)))
  have hsz : w.heap.size ≤ wr.heap.size := h.f.size
  refine ⟨jb.set' 1 _ rfl, ?_, ?_, fun i hi => ⟨hE (by decide) (by decide) (hW.ends i hi).1, (hW.ends i hi).2⟩, h.inj, ?_, hE (by decide) (by decide) hW.box⟩
  · refine owns_keep hW.re fun g hg => ?_
    obtain ⟨_, cur, hc⟩ := owns_block hW.re hg
    exact Eq.trans (hE (by decide) (by decide) hc) (Eq.symm hc)
  · rw [List.replicate_succ']
    refine owns_keep hown1 fun g' hg => k4.block g' (owns_block hown1 hg).2.choose_spec.lt ?_
    exact un4 (by decide) (owns_block hown1 hg).2.choose_spec
  · have f1 : Fr No w w1 := hW.f.more k2 fun b hb hlt => by
      have := (owns_block hW.rs hb.symm).1
      omega
    exact f1.more k4 (by rintro b rfl hb; omega)

theorem RNewSt.done {k : Nat} (h : RNewSt w wr bx wh wd k k ve vse eb) (hk : (wh.zip wd).length = k) :
    IsR wr (fun b => w.heap.size ≤ b ∧ b < wr.heap.size) (w.heap.size + 1) (JP.new (wh.zip wd)) 0 := by
  have hlen : (JP.new (wh.zip wd)).lines.length = k := by simp only [JP.new, List.length_map]; exact hk
  have hline : ∀ i (hi : i < (JP.new (wh.zip wd)).lines.length), (JP.new (wh.zip wd)).lines[i] = LineP.new (wh.getD i 0) (wd.getD i 0) := by
    intro i hi
    have hzl : i < (wh.zip wd).length := by omega
    have hzl' := hzl
    rw [List.length_zip] at hzl'
    have hw1 : i < wh.length := by omega
    have hw2 : i < wd.length := by omega
    simp [JP.new, hw1, hw2]
  refine ⟨fun b hb => hb.2, ⟨by omega, h.j.lt⟩, ve, vse, .slice none 0 0, [], h.j, ?_, ?_, Srow.nil _ _ _, ⟨fun s hs => (by cases hs), fun i hi k => ?_⟩, Nat.le_refl _⟩
  · obtain ⟨hxl, h2⟩ := h.re
    obtain ⟨a, cap, hv⟩ := owns_shape h.re
    subst hv
    refine ⟨a, cap, by rw [hlen], fun hp => ?_⟩
    rw [hlen] at hp
    rcases h2 with ⟨_, h0⟩ | ⟨g, cap', cur, hv, hg, hcur, hn, _, hsz, htk⟩
    · omega
    · injection hv with ha _ _
      subst ha
      refine ⟨g, cur, eb, rfl, ⟨hg, lt_of_heap hcur⟩, hcur, fun i hi => ⟨⟨2, ?_⟩, ?_⟩, fun i m hi hm => h.inj i m (by omega) (by omega)⟩
      · have e := ecells_get eb k i (by omega)
        rw [← htk, List.getElem?_take_of_lt (by omega)] at e
        simpa using e
      · rw [hline i hi]
        have he := h.ends i (by omega)
        refine ⟨⟨he.2, he.1.lt⟩, _, false, false, he.1, fun j hj => ?_, fun j hj => ?_, fun _ => rfl, fun _ => rfl⟩
        · unfold rendRow
          rw [Nat.zero_add, List.getElem?_toArray, List.getElem?_append_left (by show j < 11; omega)]
          rfl
        · unfold rendRow
          rw [List.getElem?_toArray, List.getElem?_append_right (by show 11 ≤ 11 + j; omega)]
          show (rendCells _ _)[11 + j - 11]? = _
          rw [Nat.add_sub_cancel_left]
          rfl
  · obtain ⟨hxl, h2⟩ := h.rs
    obtain ⟨a, cap, hv⟩ := owns_shape h.rs
    subst hv
    refine ⟨a, cap, by rw [hlen], fun hp => ?_⟩
    rw [hlen] at hp
    rcases h2 with ⟨_, h0⟩ | ⟨g, cap', cur, hv, hg, hcur, hn, _, hsz, htk⟩
    · omega
    · injection hv with ha _ _
      subst ha
      refine ⟨g, cur, rfl, ⟨hg, lt_of_heap hcur⟩, hcur, fun i hi => ?_⟩
      rw [hline i hi]
      show cur[i]? = some (.int .u32 0)
      have e : (List.replicate k (Value.int .u32 0))[i]? = some (.int .u32 0) := by rw [List.getElem?_replicate, if_pos (by omega)]
      rw [← htk, List.getElem?_take_of_lt (by omega)] at e
      simpa using e
  · rw [hline i hi]
    constructor
    · intro hk; cases hk
    · rintro ⟨s, hs, _⟩; cases hs
end

set_option maxRecDepth 1000000 in
set_option maxHeartbeats 8000000 in
theorem rnew_any (OH OD : Nat → Prop) (vh vd : Value) (wh wd : List Int) (ms : Int) (w : World) (hh : Prs w OH vh wh) (hd : Prs w OD vd wd) (hlen : wh.length ≤ 40 ∧ wd.length ≤ 40) :
    Calls Try.prog 10 #[.agg #[vh, vd, .int .u32 ms]] w fun e w' => ∃ j, e = .returned (.pointer (some ⟨j, 0, none⟩)) ∧ IsR w' (fun b => w.heap.size ≤ b ∧ b < w'.heap.size) j (JP.new (wh.zip wd)) 0 ∧ Fr No w w' := by
  obtain ⟨ah, ch, xh, rfl, lh, rh, oh, eh⟩ := hh
  obtain ⟨ad, cd, xd, rfl, ld, rd, od, ed⟩ := hd
  have HRH := Lib.hid (fun k hk => watch_cell lh rh eh k hk)
  have HRD := Lib.hid (fun k hk => watch_cell ld rd ed k hk)
  have HLN := Lib.hid hlen
  clear lh rh oh eh ld rd od ed hlen
  go_enter Try.func10, Try.ntmps10
  go_wp2
  go_loopw [4] (fun vk wr => ∃ (k : Nat) (ve vse : Value) (eb : Nat → Nat), (k ≤ wh.length ∧ k ≤ wd.length) ∧ vk = .int .i64 k ∧ RNewSt w wr #[.slice ah wh.length ch, .slice ad wd.length cd, .int .u32 ms] wh wd k k ve vse eb) (fun k _ => wh.length - (intOf k).toNat)
  case atStart => exact ⟨0, _, _, _, ⟨Nat.zero_le _, Nat.zero_le _⟩, rfl, RNewSt.start _ _ _ _⟩
  case round =>
    obtain ⟨k, ve, vse, eb, hk, rfl, hN⟩ := hrel
    have HN := Lib.hid hN
    have bb := hN.box
    have b0 : wr.cell? ⟨w.heap.size, 0, none⟩ = some (.slice ah wh.length ch) := bb.cell 0
    have b1 : wr.cell? ⟨w.heap.size, 1, none⟩ = some (.slice ad wd.length cd) := bb.cell 1
    have blt := bb.lt
    have jlt := hN.j.lt
    clear bb
    by_cases hl1 : k < wh.length
    · by_cases hl2 : k < wd.length
      · have g1 : (k : Int) < (wh.length : Int) := by omega
        have g2 : (k : Int) < (wd.length : Int) := by omega
        have g0 : (0 : Int) ≤ (k : Int) := by omega
        have hk40 : k < 40 := by have := HLN.out; omega
        have hkw : wrap64 ((k : Int) + 1) = (k : Int) + 1 := by unfold wrap64; omega
        obtain ⟨bh, oh', hah, hhc⟩ := HRH.out k (by omega)
        obtain ⟨bd, od', had, hdc⟩ := HRD.out k (by omega)
        subst hah had
        have hgx : wh.getD k 0 = wh[k] := by simp [List.getD, hl1]
        have hgy : wd.getD k 0 = wd[k] := by simp [List.getD, hl2]
        generalize wh[k] = x at hhc hgx
        generalize wd[k] = y at hdc hgy
        have wch := hN.f.old hhc id
        have wcd := hN.f.old hdc id
        have HGX := Lib.hid hgx
        have HGY := Lib.hid hgy
        clear hgx hgy
        obtain ⟨ea, ecap, rfl⟩ := owns_shape hN.re
        obtain ⟨sa, scap, rfl⟩ := owns_shape hN.rs
        have j0 : wr.cell? ⟨w.heap.size + 1, 0, none⟩ = some (.slice ea k ecap) := hN.j.cell 0
        have hS0 : ∀ W, Fr (fun b => b = w.heap.size + 1 ∨ some b = (Value.slice ea k ecap).ownBlock) wr W → W.cell? ⟨w.heap.size, 0, none⟩ = some (.slice (some ⟨bh, oh', none⟩) wh.length ch) ∧ W.cell? ⟨w.heap.size, 1, none⟩ = some (.slice (some ⟨bd, od', none⟩) wd.length cd) ∧ W.cell? ⟨bh, oh' + k * 5 + 3, none⟩ = some (.int .i64 x) ∧ W.cell? ⟨bd, od' + k * 5 + 3, none⟩ = some (.int .i64 y) := by
          intro W kf
          have nn : ∀ {q : Nat}, q < w.heap.size → ¬ (q = w.heap.size + 1 ∨ some q = (Value.slice ea k ecap).ownBlock) := by
            rintro q hq (h | h)
            · omega
            · have := (owns_block HN.out.re h.symm).1; omega
          have nb : ¬ (w.heap.size = w.heap.size + 1 ∨ some w.heap.size = (Value.slice ea k ecap).ownBlock) := by
            rintro (h | h)
            · omega
            · obtain ⟨_, cur, hc⟩ := owns_block HN.out.re h.symm; exact HN.out.box.unlike hc (by decide) rfl
          exact ⟨kf.old b0 nb, kf.old b1 nb, kf.old wch (nn (lt_of_cell? hhc)), kf.old wcd (nn (lt_of_cell? hdc))⟩
        have HKP := Lib.hid hS0
        clear hS0 hN hhc hdc
        go_wp2
        refine wp_region_held_drew (S := fun W => W.cell? ⟨w.heap.size, 0, none⟩ = some (.slice (some ⟨bh, oh', none⟩) wh.length ch) ∧ W.cell? ⟨w.heap.size, 1, none⟩ = some (.slice (some ⟨bd, od', none⟩) wd.length cd) ∧ W.cell? ⟨bh, oh' + k * 5 + 3, none⟩ = some (.int .i64 x) ∧ W.cell? ⟨bd, od' + k * 5 + 3, none⟩ = some (.int .i64 y)) (by kernel_rfl) (HKP.out _ (Fr.refl _ wr).drew) (fun hHeld => ?_)
        refine wpAnyH_take (i := 0) (v := ?v1) rfl (by kernel_rfl) (by kernel_rfl) (by kernel_rfl) (fun _ _ _ h => h) (Or.inl ⟨by rfl, ?h1⟩) (by assumption) ?r1
        case h1 => (intro W hSw; (try dsimp only at hSw); go_simp; try with_reducible rfl)
        try simp only [Act.put, List.setIfInBounds_toArray, List.set_cons_zero, List.set_cons_succ]
        refine wpAnyH_take (i := 1) (v := ?v2) rfl (by kernel_rfl) (by kernel_rfl) (by kernel_rfl) (fun _ _ _ h => h) (Or.inl ⟨by rfl, ?h2⟩) (by assumption) ?r2
        case h2 => (intro W hSw; (try dsimp only at hSw); go_simp; try with_reducible rfl)
        try simp only [Act.put, List.setIfInBounds_toArray, List.set_cons_zero, List.set_cons_succ]
        refine wpAnyH_take (i := 2) (v := ?v3) rfl (by kernel_rfl) (by kernel_rfl) (by kernel_rfl) (fun _ _ _ h => h) (Or.inl ⟨by rfl, ?h3⟩) (by assumption) ?r3
        case h3 => (intro W hSw; (try dsimp only at hSw); go_simp; try with_reducible rfl)
        try simp only [Act.put, List.setIfInBounds_toArray, List.set_cons_zero, List.set_cons_succ]
        refine wpAnyH_take (i := 3) (v := ?v4) rfl (by kernel_rfl) (by kernel_rfl) (by kernel_rfl) (fun _ _ _ h => h) (Or.inl ⟨by rfl, ?h4⟩) (by assumption) ?r4
        case h4 => (intro W hSw; (try dsimp only at hSw); go_simp; try with_reducible rfl)
        try simp only [Act.put, List.setIfInBounds_toArray, List.set_cons_zero, List.set_cons_succ]
        refine wpAnyH_take (i := 5) (v := ?v5) rfl (by kernel_rfl) (by kernel_rfl) (by kernel_rfl) (fun _ _ _ h => h) (Or.inl ⟨by rfl, ?h5⟩) (by assumption) ?r5
        case h5 => (intro W hSw; (try dsimp only at hSw); go_simp; try with_reducible rfl)
        try simp only [Act.put, List.setIfInBounds_toArray, List.set_cons_zero, List.set_cons_succ]
        refine wpAnyH_take (i := 6) (v := ?v6) rfl (by kernel_rfl) (by kernel_rfl) (by kernel_rfl) (fun _ _ _ h => h) (Or.inl ⟨by rfl, ?h6⟩) (by assumption) ?r6
        case h6 => (intro W hSw; (try dsimp only at hSw); go_simp; try with_reducible rfl)
        try simp only [Act.put, List.setIfInBounds_toArray, List.set_cons_zero, List.set_cons_succ]
        refine wpAnyH_take (i := 7) (v := ?v7) rfl (by kernel_rfl) (by kernel_rfl) (by kernel_rfl) (fun _ _ _ h => h) (Or.inl ⟨by rfl, ?h7⟩) (by assumption) ?r7
        case h7 => (intro W hSw; (try dsimp only at hSw); go_simp; try with_reducible rfl)
        try simp only [Act.put, List.setIfInBounds_toArray, List.set_cons_zero, List.set_cons_succ]
        refine wpAnyH_take (i := 8) (v := ?v8) rfl (by kernel_rfl) (by kernel_rfl) (by kernel_rfl) (fun _ _ _ h => h) (Or.inl ⟨by rfl, ?h8⟩) (by assumption) ?r8
        case h8 => (intro W hSw; (try dsimp only at hSw); go_simp; try with_reducible rfl)
        try simp only [Act.put, List.setIfInBounds_toArray, List.set_cons_zero, List.set_cons_succ]
        refine wpAnyH_take (i := 9) (v := ?v9) rfl (by kernel_rfl) (by kernel_rfl) (by kernel_rfl) (fun _ _ _ h => h) (Or.inl ⟨by rfl, ?h9⟩) (by assumption) ?r9
        case h9 => (intro W hSw; (try dsimp only at hSw); go_simp; try with_reducible rfl)
        try simp only [Act.put, List.setIfInBounds_toArray, List.set_cons_zero, List.set_cons_succ]
        refine wpAnyH_take (i := 10) (v := ?v10) rfl (by kernel_rfl) (by kernel_rfl) (by kernel_rfl) (fun _ _ _ h => h) (Or.inl ⟨by rfl, ?h10⟩) (by assumption) ?r10
        case h10 => (intro W hSw; (try dsimp only at hSw); go_simp; try with_reducible rfl)
        try simp only [Act.put, List.setIfInBounds_toArray, List.set_cons_zero, List.set_cons_succ]
        refine wpAnyH_take (i := 11) (v := ?v11) rfl (by kernel_rfl) (by kernel_rfl) (by kernel_rfl) (fun _ _ _ h => h) (Or.inl ⟨by rfl, ?h11⟩) (by assumption) ?r11
        case h11 => (intro W hSw; (try dsimp only at hSw); go_simp; try with_reducible rfl)
        try simp only [Act.put, List.setIfInBounds_toArray, List.set_cons_zero, List.set_cons_succ]
        refine wpAnyH_take (i := 12) (v := ?v12) rfl (by kernel_rfl) (by kernel_rfl) (by kernel_rfl) (fun _ _ _ h => h) (Or.inl ⟨by rfl, ?h12⟩) (by assumption) ?r12
        case h12 => (intro W hSw; (try dsimp only at hSw); go_simp; try with_reducible rfl)
        try simp only [Act.put, List.setIfInBounds_toArray, List.set_cons_zero, List.set_cons_succ]
        refine wpAnyH_take (i := 13) (v := ?v13) rfl (by kernel_rfl) (by kernel_rfl) (by kernel_rfl) (fun _ _ _ h => h) (Or.inl ⟨by rfl, ?h13⟩) (by assumption) ?r13
        case h13 => (intro W hSw; (try dsimp only at hSw); go_simp; try with_reducible rfl)
        try simp only [Act.put, List.setIfInBounds_toArray, List.set_cons_zero, List.set_cons_succ]
        refine wpAnyH_take (i := 14) (v := ?v14) rfl (by kernel_rfl) (by kernel_rfl) (by kernel_rfl) (fun _ _ _ h => h) (Or.inl ⟨by rfl, ?h14⟩) (by assumption) ?r14
        case h14 => (intro W hSw; (try dsimp only at hSw); go_simp; try with_reducible rfl)
        try simp only [Act.put, List.setIfInBounds_toArray, List.set_cons_zero, List.set_cons_succ]
        refine wpAnyH_take (i := 15) (v := ?v15) rfl (by kernel_rfl) (by kernel_rfl) (by kernel_rfl) (fun _ _ _ h => h) (Or.inl ⟨by rfl, ?h15⟩) (by assumption) ?r15
        case h15 => (intro W hSw; (try dsimp only at hSw); go_simp; try with_reducible rfl)
        try simp only [Act.put, List.setIfInBounds_toArray, List.set_cons_zero, List.set_cons_succ]
        refine wpAnyH_take (i := 16) (v := ?v16) rfl (by kernel_rfl) (by kernel_rfl) (by kernel_rfl) (fun _ _ _ h => h) (Or.inl ⟨by rfl, ?h16⟩) (by assumption) ?r16
        case h16 => (intro W hSw; (try dsimp only at hSw); go_simp; try with_reducible rfl)
        try simp only [Act.put, List.setIfInBounds_toArray, List.set_cons_zero, List.set_cons_succ]
        refine wpAnyH_take (i := 17) (v := ?v17) rfl (by kernel_rfl) (by kernel_rfl) (by kernel_rfl) (fun _ _ _ h => h) (Or.inl ⟨by rfl, ?h17⟩) (by assumption) ?r17
        case h17 => (intro W hSw; (try dsimp only at hSw); go_simp; try with_reducible rfl)
        try simp only [Act.put, List.setIfInBounds_toArray, List.set_cons_zero, List.set_cons_succ]
        refine wpAnyH_take (i := 18) (v := ?v18) rfl (by kernel_rfl) (by kernel_rfl) (by kernel_rfl) (fun _ _ _ h => h) (Or.inl ⟨by rfl, ?h18⟩) (by assumption) ?r18
        case h18 => (intro W hSw; (try dsimp only at hSw); go_simp; try with_reducible rfl)
        try simp only [Act.put, List.setIfInBounds_toArray, List.set_cons_zero, List.set_cons_succ]
        refine wpAnyH_ready (rs := [4, 19]) (by kernel_rfl) (by simp) ?_
        refine AllReadyH.cons rfl (fun K hK => ?_) (AllReadyH.cons rfl (fun K hK => ?_) AllReadyH.nil)
        · skip
          go_simp
          refine hK.out _ _ (HKP.out _ ((Fr.refl (fun b => b = w.heap.size + 1 ∨ some b = (Value.slice ea k ecap).ownBlock) wr).drew)) (fun hHeld => ?_)
          clear hK K
          refine wpAnyH_ready (rs := [19]) (by kernel_rfl) (by simp) ?_
          refine AllReadyH.cons rfl (fun K hK => ?_) AllReadyH.nil
          go_simp
          refine hK.out _ _ (HKP.out _ ((((Fr.refl (fun b => b = w.heap.size + 1 ∨ some b = (Value.slice ea k ecap).ownBlock) wr).alloc _).drew))) (fun hHeld => ?_)
          clear hK K
          refine wpAnyH_ready (rs := [20]) (by kernel_rfl) (by simp) ?_
          refine AllReadyH.cons rfl (fun K hK => ?_) AllReadyH.nil
          go_simp
          refine hK.out _ _ (HKP.out _ (((((Fr.refl (fun b => b = w.heap.size + 1 ∨ some b = (Value.slice ea k ecap).ownBlock) wr).alloc _).alloc _).drew))) (fun hHeld => ?_)
          clear hK K
          refine wpAnyH_ready (rs := [21]) (by kernel_rfl) (by simp) ?_
          refine AllReadyH.cons rfl (fun K hK => ?_) AllReadyH.nil
          refine step_append_lies _ (by rfl) _ _ 45 (by rfl) w.heap.size 69 _ _ 1 24 Try.underlying45 (info_parts Try.info69).choose_spec.1 (info_parts Try.info69).choose_spec.2.1 (info_parts Try.info69).choose_spec.2.2.1 (info_parts Try.info69).choose_spec.2.2.2 rfl (by omega) (.slice ea k ecap) k (ecells eb k) (by rfl) (HN.out.keep ((((Fr.refl No wr).alloc _).alloc _).drew)).re ⟨wr.heap.size + 1, 0, none⟩ 1 1 [.slice (some ⟨wr.heap.size, 0, none⟩) 2 2] (by rfl) rfl (World.news_of_block (by exact alloc_at (wr.alloc _) _ (by simp))) (by intro u hu; rw [List.mem_singleton.1 hu]; rfl) (by omega) (by unfold maxLen; omega) (by omega) (by have := HN.out.f.size; simp; omega) _ rfl ?_
          intro g1' cap1 w1 h1 h2 _ _
          have st1 := HN.out.step1 (x := x) (y := y) ((((Fr.refl No wr).alloc _).alloc _).drew) (B := wr.heap.size) (((Fr.refl No _).alloc _).drew.blk (Blk.new wr (rendRow x y) 68) id) (Nat.le_refl _) HGX.out HGY.out h1 h2
          have m1 := (HN.out.keep ((((Fr.refl No wr).alloc _).alloc _).drew)).mid1 h2
          have f1 : Fr (fun b => b = w.heap.size + 1 ∨ some b = (Value.slice ea k ecap).ownBlock) wr w1 := ((((Fr.refl (fun b => b = w.heap.size + 1 ∨ some b = (Value.slice ea k ecap).ownBlock) wr).alloc _).alloc _).drew).trans ((grown_fr h2).wide fun _ h _ => .inr h)
          have ST1 := Lib.hid st1
          have F1 := Lib.hid f1
          have y0 : w1.cell? ⟨w.heap.size + 1, 0, none⟩ = some (.slice ea k ecap) := m1.cell 0
          have yf := m1.free 0
          have yl := m1.lt
          clear st1 f1 m1 h1 h2
          refine hK.out _ _ (HKP.out _ (F1.out)) (fun hHeld => ?_)
          clear hK K
          refine wpAnyH_take (i := 22) (v := ?v19) rfl (by kernel_rfl) (by kernel_rfl) (by kernel_rfl) (fun _ _ _ h => h) (Or.inl ⟨by rfl, ?h19⟩) (by assumption) ?r19
          case h19 => (intro W hSw; (try dsimp only at hSw); go_simp; try with_reducible rfl)
          try simp only [Act.put, List.setIfInBounds_toArray, List.set_cons_zero, List.set_cons_succ]
          refine wpAnyH_take (i := 23) (v := ?v20) rfl (by kernel_rfl) (by kernel_rfl) (by kernel_rfl) (fun _ _ _ h => h) (Or.inl ⟨by rfl, ?h20⟩) (by assumption) ?r20
          case h20 => (intro W hSw; (try dsimp only at hSw); go_simp; try with_reducible rfl)
          try simp only [Act.put, List.setIfInBounds_toArray, List.set_cons_zero, List.set_cons_succ]
          refine wpAnyH_ready (rs := [24]) (by kernel_rfl) (by simp) ?_
          refine AllReadyH.cons rfl (fun K hK => ?_) AllReadyH.nil
          go_simp
          refine hK.out _ _ (HKP.out _ (F1.out.setCell (p := ⟨w.heap.size + 1, 0, none⟩) (fun _ => .inl rfl) _)) (fun hHeld => ?_)
          clear hK K
          refine wpAnyH_done (by kernel_rfl) ?_ _
          generalize w1.setCell ⟨w.heap.size + 1, 0, none⟩ (.slice (some ⟨g1', 0, none⟩) (k + 1) cap1) = w5 at ST1 ⊢
          have jj := ST1.out.j
          have y1 : w5.cell? ⟨w.heap.size + 1, 1, none⟩ = some (.slice sa k scap) := jj.cell 1
          have yf1 := jj.free 1
          have yl1 := jj.lt
          clear jj j0 b0 b1 wch wcd hHeld HKP y0 yf yl F1
          go_wp2_with (at_builtin; refine wpList_append_lies _ (by rfl) _ _ 46 (by rfl) w.heap.size 23 _ _ 1 4 Try.underlying46 (info_parts Try.info23).choose_spec.1 (info_parts Try.info23).choose_spec.2.1 (info_parts Try.info23).choose_spec.2.2.1 (info_parts Try.info23).choose_spec.2.2.2 rfl (by omega) (.slice sa k scap) k (List.replicate k (.int .u32 0)) (by rfl) (ST1.out.keep ((Fr.refl No w5).alloc _)).rs ⟨w5.heap.size, 0, none⟩ 1 1 [.int .u32 0] (by rfl) rfl (World.news_of_block (by exact alloc_at w5 _ rfl)) (by intro u hu; rw [List.mem_singleton.1 hu]; rfl) (by omega) (by unfold maxLen; omega) (by omega) (by have := ST1.out.f.size; simp; omega) _ rfl ?_; intro g2' cap2 w6 h1 h2 _ _; have st2 := ST1.out.step2 ((Fr.refl No w5).alloc _) h1 h2; have m2 := (ST1.out.keep ((Fr.refl No w5).alloc _)).mid2 h2; have ST2 := Lib.hid st2; have x1 : w6.cell? ⟨w.heap.size + 1, 1, none⟩ = some (.slice sa k scap) := m2.cell 1; have xf := m2.free 1; have xl := m2.lt; clear st2 m2 h1 h2)
          go_roundw
          case rel => exact ⟨k + 1, _, _, _, by omega, by go_num, ST2.out⟩
          case measure => simp [intOf, hkw]; omega
        · skip
          go_simp
          refine hK.out _ _ (HKP.out _ ((((Fr.refl (fun b => b = w.heap.size + 1 ∨ some b = (Value.slice ea k ecap).ownBlock) wr).alloc _).drew))) (fun hHeld => ?_)
          clear hK K
          refine wpAnyH_ready (rs := [4, 20]) (by kernel_rfl) (by simp) ?_
          refine AllReadyH.cons rfl (fun K hK => ?_) (AllReadyH.cons rfl (fun K hK => ?_) AllReadyH.nil)
          · skip
            go_simp
            refine hK.out _ _ (HKP.out _ ((((Fr.refl (fun b => b = w.heap.size + 1 ∨ some b = (Value.slice ea k ecap).ownBlock) wr).alloc _).drew))) (fun hHeld => ?_)
            clear hK K
            refine wpAnyH_ready (rs := [20]) (by kernel_rfl) (by simp) ?_
            refine AllReadyH.cons rfl (fun K hK => ?_) AllReadyH.nil
            go_simp
            refine hK.out _ _ (HKP.out _ (((((Fr.refl (fun b => b = w.heap.size + 1 ∨ some b = (Value.slice ea k ecap).ownBlock) wr).alloc _).alloc _).drew))) (fun hHeld => ?_)
            clear hK K
            refine wpAnyH_ready (rs := [21]) (by kernel_rfl) (by simp) ?_
            refine AllReadyH.cons rfl (fun K hK => ?_) AllReadyH.nil
            refine step_append_lies _ (by rfl) _ _ 45 (by rfl) w.heap.size 69 _ _ 1 24 Try.underlying45 (info_parts Try.info69).choose_spec.1 (info_parts Try.info69).choose_spec.2.1 (info_parts Try.info69).choose_spec.2.2.1 (info_parts Try.info69).choose_spec.2.2.2 rfl (by omega) (.slice ea k ecap) k (ecells eb k) (by rfl) (HN.out.keep ((((Fr.refl No wr).alloc _).alloc _).drew)).re ⟨wr.heap.size + 1, 0, none⟩ 1 1 [.slice (some ⟨wr.heap.size, 0, none⟩) 2 2] (by rfl) rfl (World.news_of_block (by exact alloc_at (wr.alloc _) _ (by simp))) (by intro u hu; rw [List.mem_singleton.1 hu]; rfl) (by omega) (by unfold maxLen; omega) (by omega) (by have := HN.out.f.size; simp; omega) _ rfl ?_
            intro g1' cap1 w1 h1 h2 _ _
            have st1 := HN.out.step1 (x := x) (y := y) ((((Fr.refl No wr).alloc _).alloc _).drew) (B := wr.heap.size) (((Fr.refl No _).alloc _).drew.blk (Blk.new wr (rendRow x y) 68) id) (Nat.le_refl _) HGX.out HGY.out h1 h2
            have m1 := (HN.out.keep ((((Fr.refl No wr).alloc _).alloc _).drew)).mid1 h2
            have f1 : Fr (fun b => b = w.heap.size + 1 ∨ some b = (Value.slice ea k ecap).ownBlock) wr w1 := ((((Fr.refl (fun b => b = w.heap.size + 1 ∨ some b = (Value.slice ea k ecap).ownBlock) wr).alloc _).alloc _).drew).trans ((grown_fr h2).wide fun _ h _ => .inr h)
            have ST1 := Lib.hid st1
            have F1 := Lib.hid f1
            have y0 : w1.cell? ⟨w.heap.size + 1, 0, none⟩ = some (.slice ea k ecap) := m1.cell 0
            have yf := m1.free 0
            have yl := m1.lt
            clear st1 f1 m1 h1 h2
            refine hK.out _ _ (HKP.out _ (F1.out)) (fun hHeld => ?_)
            clear hK K
            refine wpAnyH_take (i := 22) (v := ?v21) rfl (by kernel_rfl) (by kernel_rfl) (by kernel_rfl) (fun _ _ _ h => h) (Or.inl ⟨by rfl, ?h21⟩) (by assumption) ?r21
            case h21 => (intro W hSw; (try dsimp only at hSw); go_simp; try with_reducible rfl)
            try simp only [Act.put, List.setIfInBounds_toArray, List.set_cons_zero, List.set_cons_succ]
            refine wpAnyH_take (i := 23) (v := ?v22) rfl (by kernel_rfl) (by kernel_rfl) (by kernel_rfl) (fun _ _ _ h => h) (Or.inl ⟨by rfl, ?h22⟩) (by assumption) ?r22
            case h22 => (intro W hSw; (try dsimp only at hSw); go_simp; try with_reducible rfl)
            try simp only [Act.put, List.setIfInBounds_toArray, List.set_cons_zero, List.set_cons_succ]
            refine wpAnyH_ready (rs := [24]) (by kernel_rfl) (by simp) ?_
            refine AllReadyH.cons rfl (fun K hK => ?_) AllReadyH.nil
            go_simp
            refine hK.out _ _ (HKP.out _ (F1.out.setCell (p := ⟨w.heap.size + 1, 0, none⟩) (fun _ => .inl rfl) _)) (fun hHeld => ?_)
            clear hK K
            refine wpAnyH_done (by kernel_rfl) ?_ _
            generalize w1.setCell ⟨w.heap.size + 1, 0, none⟩ (.slice (some ⟨g1', 0, none⟩) (k + 1) cap1) = w5 at ST1 ⊢
            have jj := ST1.out.j
            have y1 : w5.cell? ⟨w.heap.size + 1, 1, none⟩ = some (.slice sa k scap) := jj.cell 1
            have yf1 := jj.free 1
            have yl1 := jj.lt
            clear jj j0 b0 b1 wch wcd hHeld HKP y0 yf yl F1
            go_wp2_with (at_builtin; refine wpList_append_lies _ (by rfl) _ _ 46 (by rfl) w.heap.size 23 _ _ 1 4 Try.underlying46 (info_parts Try.info23).choose_spec.1 (info_parts Try.info23).choose_spec.2.1 (info_parts Try.info23).choose_spec.2.2.1 (info_parts Try.info23).choose_spec.2.2.2 rfl (by omega) (.slice sa k scap) k (List.replicate k (.int .u32 0)) (by rfl) (ST1.out.keep ((Fr.refl No w5).alloc _)).rs ⟨w5.heap.size, 0, none⟩ 1 1 [.int .u32 0] (by rfl) rfl (World.news_of_block (by exact alloc_at w5 _ rfl)) (by intro u hu; rw [List.mem_singleton.1 hu]; rfl) (by omega) (by unfold maxLen; omega) (by omega) (by have := ST1.out.f.size; simp; omega) _ rfl ?_; intro g2' cap2 w6 h1 h2 _ _; have st2 := ST1.out.step2 ((Fr.refl No w5).alloc _) h1 h2; have m2 := (ST1.out.keep ((Fr.refl No w5).alloc _)).mid2 h2; have ST2 := Lib.hid st2; have x1 : w6.cell? ⟨w.heap.size + 1, 1, none⟩ = some (.slice sa k scap) := m2.cell 1; have xf := m2.free 1; have xl := m2.lt; clear st2 m2 h1 h2)
            go_roundw
            case rel => exact ⟨k + 1, _, _, _, by omega, by go_num, ST2.out⟩
            case measure => simp [intOf, hkw]; omega
          · skip
            go_simp
            refine hK.out _ _ (HKP.out _ (((((Fr.refl (fun b => b = w.heap.size + 1 ∨ some b = (Value.slice ea k ecap).ownBlock) wr).alloc _).alloc _).drew))) (fun hHeld => ?_)
            clear hK K
            refine wpAnyH_ready (rs := [4]) (by kernel_rfl) (by simp) ?_
            refine AllReadyH.cons rfl (fun K hK => ?_) AllReadyH.nil
            go_simp
            refine hK.out _ _ (HKP.out _ (((((Fr.refl (fun b => b = w.heap.size + 1 ∨ some b = (Value.slice ea k ecap).ownBlock) wr).alloc _).alloc _).drew))) (fun hHeld => ?_)
            clear hK K
            refine wpAnyH_ready (rs := [21]) (by kernel_rfl) (by simp) ?_
            refine AllReadyH.cons rfl (fun K hK => ?_) AllReadyH.nil
            refine step_append_lies _ (by rfl) _ _ 45 (by rfl) w.heap.size 69 _ _ 1 24 Try.underlying45 (info_parts Try.info69).choose_spec.1 (info_parts Try.info69).choose_spec.2.1 (info_parts Try.info69).choose_spec.2.2.1 (info_parts Try.info69).choose_spec.2.2.2 rfl (by omega) (.slice ea k ecap) k (ecells eb k) (by rfl) (HN.out.keep ((((Fr.refl No wr).alloc _).alloc _).drew)).re ⟨wr.heap.size + 1, 0, none⟩ 1 1 [.slice (some ⟨wr.heap.size, 0, none⟩) 2 2] (by rfl) rfl (World.news_of_block (by exact alloc_at (wr.alloc _) _ (by simp))) (by intro u hu; rw [List.mem_singleton.1 hu]; rfl) (by omega) (by unfold maxLen; omega) (by omega) (by have := HN.out.f.size; simp; omega) _ rfl ?_
            intro g1' cap1 w1 h1 h2 _ _
            have st1 := HN.out.step1 (x := x) (y := y) ((((Fr.refl No wr).alloc _).alloc _).drew) (B := wr.heap.size) (((Fr.refl No _).alloc _).drew.blk (Blk.new wr (rendRow x y) 68) id) (Nat.le_refl _) HGX.out HGY.out h1 h2
            have m1 := (HN.out.keep ((((Fr.refl No wr).alloc _).alloc _).drew)).mid1 h2
            have f1 : Fr (fun b => b = w.heap.size + 1 ∨ some b = (Value.slice ea k ecap).ownBlock) wr w1 := ((((Fr.refl (fun b => b = w.heap.size + 1 ∨ some b = (Value.slice ea k ecap).ownBlock) wr).alloc _).alloc _).drew).trans ((grown_fr h2).wide fun _ h _ => .inr h)
            have ST1 := Lib.hid st1
            have F1 := Lib.hid f1
            have y0 : w1.cell? ⟨w.heap.size + 1, 0, none⟩ = some (.slice ea k ecap) := m1.cell 0
            have yf := m1.free 0
            have yl := m1.lt
            clear st1 f1 m1 h1 h2
            refine hK.out _ _ (HKP.out _ (F1.out)) (fun hHeld => ?_)
            clear hK K
            refine wpAnyH_take (i := 22) (v := ?v23) rfl (by kernel_rfl) (by kernel_rfl) (by kernel_rfl) (fun _ _ _ h => h) (Or.inl ⟨by rfl, ?h23⟩) (by assumption) ?r23
            case h23 => (intro W hSw; (try dsimp only at hSw); go_simp; try with_reducible rfl)
            try simp only [Act.put, List.setIfInBounds_toArray, List.set_cons_zero, List.set_cons_succ]
            refine wpAnyH_take (i := 23) (v := ?v24) rfl (by kernel_rfl) (by kernel_rfl) (by kernel_rfl) (fun _ _ _ h => h) (Or.inl ⟨by rfl, ?h24⟩) (by assumption) ?r24
            case h24 => (intro W hSw; (try dsimp only at hSw); go_simp; try with_reducible rfl)
            try simp only [Act.put, List.setIfInBounds_toArray, List.set_cons_zero, List.set_cons_succ]
            refine wpAnyH_ready (rs := [24]) (by kernel_rfl) (by simp) ?_
            refine AllReadyH.cons rfl (fun K hK => ?_) AllReadyH.nil
            go_simp
            refine hK.out _ _ (HKP.out _ (F1.out.setCell (p := ⟨w.heap.size + 1, 0, none⟩) (fun _ => .inl rfl) _)) (fun hHeld => ?_)
            clear hK K
            refine wpAnyH_done (by kernel_rfl) ?_ _
            generalize w1.setCell ⟨w.heap.size + 1, 0, none⟩ (.slice (some ⟨g1', 0, none⟩) (k + 1) cap1) = w5 at ST1 ⊢
            have jj := ST1.out.j
            have y1 : w5.cell? ⟨w.heap.size + 1, 1, none⟩ = some (.slice sa k scap) := jj.cell 1
            have yf1 := jj.free 1
            have yl1 := jj.lt
            clear jj j0 b0 b1 wch wcd hHeld HKP y0 yf yl F1
            go_wp2_with (at_builtin; refine wpList_append_lies _ (by rfl) _ _ 46 (by rfl) w.heap.size 23 _ _ 1 4 Try.underlying46 (info_parts Try.info23).choose_spec.1 (info_parts Try.info23).choose_spec.2.1 (info_parts Try.info23).choose_spec.2.2.1 (info_parts Try.info23).choose_spec.2.2.2 rfl (by omega) (.slice sa k scap) k (List.replicate k (.int .u32 0)) (by rfl) (ST1.out.keep ((Fr.refl No w5).alloc _)).rs ⟨w5.heap.size, 0, none⟩ 1 1 [.int .u32 0] (by rfl) rfl (World.news_of_block (by exact alloc_at w5 _ rfl)) (by intro u hu; rw [List.mem_singleton.1 hu]; rfl) (by omega) (by unfold maxLen; omega) (by omega) (by have := ST1.out.f.size; simp; omega) _ rfl ?_; intro g2' cap2 w6 h1 h2 _ _; have st2 := ST1.out.step2 ((Fr.refl No w5).alloc _) h1 h2; have m2 := (ST1.out.keep ((Fr.refl No w5).alloc _)).mid2 h2; have ST2 := Lib.hid st2; have x1 : w6.cell? ⟨w.heap.size + 1, 1, none⟩ = some (.slice sa k scap) := m2.cell 1; have xf := m2.free 1; have xl := m2.lt; clear st2 m2 h1 h2)
            go_roundw
            case rel => exact ⟨k + 1, _, _, _, by omega, by go_num, ST2.out⟩
            case measure => simp [intOf, hkw]; omega
      · have g1 : (k : Int) < (wh.length : Int) := by omega
        have g2 : ¬ (k : Int) < (wd.length : Int) := by omega
        have hdn := hN.done (by rw [List.length_zip]; omega)
        have HDN := Lib.hid hdn
        have HFR := Lib.hid hN.f
        clear hdn hN
        go_wp2
        go_ret
        exact ⟨_, rfl, HDN.out, HFR.out⟩
    · have g1 : ¬ (k : Int) < (wh.length : Int) := by omega
      have hdn := hN.done (by rw [List.length_zip]; omega)
      have HDN := Lib.hid hdn
      have HFR := Lib.hid hN.f
      clear hdn hN
      go_wp2
      go_ret
      exact ⟨_, rfl, HDN.out, HFR.out⟩
end Go.Proofs.Ytmggfdhlbjlpjaa
