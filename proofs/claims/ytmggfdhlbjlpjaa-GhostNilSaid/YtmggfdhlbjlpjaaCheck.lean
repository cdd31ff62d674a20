/-
  DERIVED. The walk of Check.
-/
import Derived.Test.YtmggfdhlbjlpjaaNew
import Derived.Test.YtmggfdhlbjlpjaaPure2
namespace Go.Proofs.Ytmggfdhlbjlpjaa
open Go.RowKit
set_option linter.unusedSimpArgs false
set_option linter.unusedVariables false

/-- A list of facts: their row lies in R, their data in O. -/
def Fs (w : World) (R O : Nat → Prop) (v : Value) (l : List FactP) : Prop :=
  ∃ a cap, v = .slice a l.length cap ∧ l.length ≤ cap ∧ (a = none → cap = 0) ∧ (0 < l.length → ∃ b off, a = some ⟨b, off, none⟩ ∧ R b ∧ ∀ i (h : i < l.length), ∃ vf, Bs w O vf l[i].data ∧ ∀ k u, (factCells l[i] vf)[k]? = some u → w.cell? ⟨b, off + i * 8 + k, none⟩ = some u)

section
variable {w w' : World} {R O C : Nat → Prop} {v : Value} {l : List FactP}
theorem Fs.keep (h : Fs w R O v l) (k : Fr C w w') (hR : ∀ b, R b → ¬ C b) (hO : ∀ b, O b → ¬ C b) : Fs w' R O v l := by
  obtain ⟨a, cap, h1, h2, h0, h3⟩ := h
  refine ⟨a, cap, h1, h2, h0, fun hl => ?_⟩
  obtain ⟨b, off, ha, hb, hi⟩ := h3 hl
  refine ⟨b, off, ha, hb, fun i h => ?_⟩
  obtain ⟨vf, h4, h5⟩ := hi i h
  exact ⟨vf, h4.keep k hO, fun k' u hu => k.old (h5 k' u hu) (hR _ hb)⟩
theorem Fs.wide {R' O' : Nat → Prop} (h : Fs w R O v l) (hR : ∀ b, R b → R' b) (hO : ∀ b, O b → O' b) : Fs w R' O' v l := by
  obtain ⟨a, cap, h1, h2, h0, h3⟩ := h
  refine ⟨a, cap, h1, h2, h0, fun hl => ?_⟩
  obtain ⟨b, off, ha, hb, hi⟩ := h3 hl
  refine ⟨b, off, ha, hR _ hb, fun i h => ?_⟩
  obtain ⟨vf, h4, h5⟩ := hi i h
  exact ⟨vf, h4.wide hO, h5⟩
/-- One fact of the list. -/
theorem Fs.at_ {a : Option Addr} {n cap : Nat} (h : Fs w R O (.slice a n cap) l) {k : Nat} (hk : k < l.length) : n = l.length ∧ ∃ b off vf, a = some ⟨b, off, none⟩ ∧ R b ∧ Bs w O vf l[k].data ∧ ∀ i u, (factCells l[k] vf)[i]? = some u → w.cell? ⟨b, off + k * 8 + i, none⟩ = some u := by
  obtain ⟨a', cap', h1, h2, h0, h3⟩ := h
  injection h1 with h4 h5 h6
  subst h4 h5 h6
  obtain ⟨b, off, ha, hb, hi⟩ := h3 (by omega)
  obtain ⟨vf, h4, h5⟩ := hi k hk
  exact ⟨rfl, b, off, vf, ha, hb, h4, h5⟩
theorem Fs.shape (h : Fs w R O v l) : ∃ a cap, v = .slice a l.length cap ∧ l.length ≤ cap := let ⟨a, cap, h1, h2, _⟩ := h; ⟨a, cap, h1, h2⟩
/-- The beginning of a list. -/
theorem Fs.take {a : Option Addr} {n cap : Nat} (h : Fs w R O (.slice a n cap) l) (k : Nat) (hk : k ≤ l.length) : Fs w R O (.slice a k cap) (l.take k) := by
  obtain ⟨a', cap', h1, h2, h0, h3⟩ := h
  injection h1 with h4 h5 h6
  subst h4 h5 h6
  have hl : (l.take k).length = k := by rw [List.length_take]; omega
  refine ⟨a, cap, by rw [hl], by omega, h0, fun hp => ?_⟩
  obtain ⟨b, off, ha, hb, hi⟩ := h3 (by omega)
  refine ⟨b, off, ha, hb, fun i h => ?_⟩
  have : (l.take k)[i] = l[i]'(by omega) := by simp
  rw [this]
  exact hi i (by omega)
end

/-- What a fact's cells are, as the walk reads them. -/
theorem fact_cells {w : World} {b o : Nat} {f : FactP} {vf : Value} (h : ∀ i u, (factCells f vf)[i]? = some u → w.cell? ⟨b, o + i, none⟩ = some u) :
    w.cell? ⟨b, o, none⟩ = some (.int .i64 f.kind) ∧ w.cell? ⟨b, o + 1, none⟩ = some (.int .i64 f.conn) ∧ w.cell? ⟨b, o + 2, none⟩ = some (.int .i64 f.side) ∧ w.cell? ⟨b, o + 3, none⟩ = some (.int .u32 f.session) ∧ w.cell? ⟨b, o + 4, none⟩ = some (.int .u32 f.number) ∧
    w.cell? ⟨b, o + 5, none⟩ = some (.bool f.on) ∧ w.cell? ⟨b, o + 6, none⟩ = some (.int .i64 f.code) ∧ w.cell? ⟨b, o + 7, none⟩ = some vf :=
  ⟨h 0 _ rfl, h 1 _ rfl, h 2 _ rfl, h 3 _ rfl, h 4 _ rfl, h 5 _ rfl, h 6 _ rfl, h 7 _ rfl⟩

set_option maxRecDepth 1000000 in
set_option maxHeartbeats 8000000 in
theorem check_any (OH OD R O : Nat → Prop) (vh vd vl : Value) (wh wd : List Int) (ms : Int) (l : List FactP) (w : World) (hh : Prs w OH vh wh) (hd : Prs w OD vd wd) (hlen : wh.length ≤ 40 ∧ wd.length ≤ 40) (hnet : NetOk (wh.zip wd)) (hl : Fs w R O vl l) (hgood : ∀ f ∈ l, f.Good) (hn : l.length ≤ 1900) (hR : ∀ b, R b → b < w.heap.size) (hO : ∀ b, O b → b < w.heap.size) :
    Calls Try.prog 15 #[.agg #[vh, vd, .int .u32 ms], vl] w fun e w' => e = .returned (.agg #[.int .i64 (check (wh.zip wd) l).1, .int .i64 (check (wh.zip wd) l).2]) ∧ Fr No w w' := by
  obtain ⟨a, cap, rfl, hcap⟩ := hl.shape
  obtain ⟨j0, hj0⟩ : ∃ j0, j0 = JP.new (wh.zip wd) := ⟨_, rfl⟩
  have k0 := ((Fr.refl No w).alloc (.cells #[vh, vd, .int .u32 ms] 25)).alloc (.cells #[.int .i64 0, .int .i64 0] 34)
  have HNEW := Lib.hid (fun W (kk : Fr No w W) => new_any OH OD vh vd wh wd ms W (hh.keep kk fun _ _ => id) (hd.keep kk fun _ _ => id) hlen)
  have HG := Lib.hid (sees_good hnet hgood)
  have HGD := Lib.hid hgood
  have HL := Lib.hid hl
  have HK0 := Lib.hid k0
  have HR := Lib.hid hR
  have HO := Lib.hid hO
  have hshape1 := hh
  have hshape2 := hd
  obtain ⟨ah, ch, _, rfl, _⟩ := hshape1
  obtain ⟨ad, cd, _, rfl, _⟩ := hshape2
  clear hh hd hlen hnet hl hgood k0 hcap hR hO
  go_enter Try.func15, Try.ntmps15
  go_wp2_with (go_at_call 8; refine (HNEW.out _ HK0.out).mono ?_; rintro e w1 ⟨j, rfl, hj1, hk1⟩; have hz1 := hk1.size; simp at hz1)
  have hres : Blk w1 (w.heap.size + 1) #[.int .i64 0, .int .i64 0] 34 := see_res hk1 (fun h => h)
  have hj2 : IsJ w1 (fun b => w.heap.size + 2 ≤ b ∧ b < w1.heap.size) j (JP.new (wh.zip wd)) := hj1.wide (fun b hb => by simpa using hb) fun b hb => hb.2
  have hk2 : Fr No w w1 := HK0.out.trans hk1
  have HRES := Lib.hid hres
  have HJ2 := Lib.hid hj2
  have HK2 := Lib.hid hk2
  clear hres hj1 hj2 hk1 hk2
  go_loopw [12] (fun vk wr => ∃ k : Nat, k ≤ l.length ∧ vk = .int .i64 k ∧ IsJ wr (fun b => w.heap.size + 2 ≤ b ∧ b < wr.heap.size) j ((JP.new (wh.zip wd)).sees (l.take k)) ∧ Fr No w wr ∧ Blk wr (w.heap.size + 1) #[.int .i64 0, .int .i64 0] 34 ∧ w.heap.size + 2 ≤ wr.heap.size) (fun k _ => l.length - (intOf k).toNat)
  case atStart => exact ⟨0, Nat.zero_le _, rfl, HJ2.out, HK2.out, HRES.out, by omega⟩
  case round =>
    obtain ⟨k, hk, rfl, hj, hf, hr, hsz⟩ := hrel
    by_cases hlt : k < l.length
    · have h1 : (k : Int) < (l.length : Int) := by omega
      have h0 : (0 : Int) ≤ (k : Int) := by omega
      obtain ⟨_, b, off, vf, rfl, hRb, hbs, hc⟩ := (HL.out.keep hf (fun _ _ => id) fun _ _ => id).at_ hlt
      obtain ⟨c0, c1, c2, c3, c4, c5, c6, c7⟩ := fact_cells hc
      have hbl := lt_of_cell? c0
      dsimp only at hbl
      have hgd := HGD.out l[k] (List.getElem_mem _)
      have hok := (HG.out k).resolve_right (by omega)
      have hat : ((JP.new (wh.zip wd)).sees (l.take k)).at_ = k := by rw [JP.sees_at, List.length_take]; show (0 : Int) + _ = _; omega
      have hsucc := JP.sees_succ (JP.new (wh.zip wd)) l k hlt
      generalize hst : (JP.new (wh.zip wd)).sees (l.take k) = st at hj hok hat hsucc
      have hal : ∀ o : Obj, Fr No wr (wr.alloc o) := fun o => (Fr.refl No wr).alloc o
      have HSEE := Lib.hid (fun W (kk : Fr No wr W) => see_any (fun b => w.heap.size + 2 ≤ b ∧ b < wr.heap.size) O j st l[k] vf 2000 W (hj.keep kk fun _ _ => id) (hbs.keep kk fun _ _ => id) (fun b hb hb2 => by have := HO.out b hb; omega) hgd.len hgd.ok hok (by omega) (by omega))
      have HAL := Lib.hid hal
      have HR2 := Lib.hid hr
      have HF := Lib.hid hf
      have HSU := Lib.hid hsucc
      have hvf : ∃ av cv, vf = .slice av l[k].data.length cv := let ⟨av, cv, h, _⟩ := hbs; ⟨av, cv, h⟩
      obtain ⟨av, cv, rfl⟩ := hvf
      clear hj hr hf hc hbs hgd hok hat hst hsucc hal hRb
      go_wp2_with (go_at_call 13; refine (HSEE.out _ (HAL.out _)).mono ?_; rintro e w3 ⟨rfl, hj3, hk3⟩; have hz3 := hk3.size; simp at hz3)
      have hj4 : IsJ w3 (fun b => w.heap.size + 2 ≤ b ∧ b < w3.heap.size) j ((JP.new (wh.zip wd)).sees (l.take (k + 1))) := by
        rw [HSU.out]
        refine hj3.wide ?_ fun b hb => hb.2
        rintro b (hb | hb)
        · exact ⟨hb.1, by omega⟩
        · simp at hb; exact ⟨by omega, hb.2⟩
      have hr4 : Blk w3 (w.heap.size + 1) #[.int .i64 0, .int .i64 0] 34 := hk3.blk ((HAL.out _).blk HR2.out id) (by omega)
      have hf4 : Fr No w w3 := HF.out.more (((HAL.out _).no (fun b => w.heap.size + 2 ≤ b ∧ b < wr.heap.size)).trans hk3) (fun b hb hx => absurd hb.1 (by omega))
      have HJ4 := Lib.hid hj4
      have HR4 := Lib.hid hr4
      have HF4 := Lib.hid hf4
      clear hj3 hk3 hj4 hr4 hf4
      go_wp2
      go_roundw
      case rel => exact ⟨k + 1, by omega, by go_num, HJ4.out, HF4.out, HR4.out, by omega⟩
      case measure => simp [intOf]; omega
    · obtain rfl : k = l.length := by omega
      rw [List.take_length] at hj
      have HV := Lib.hid (verdict_any (fun b => w.heap.size + 2 ≤ b ∧ b < wr.heap.size) j _ wr hj)
      have HR2 := Lib.hid hr
      have HF := Lib.hid hf
      have HCK : Hid (check (wh.zip wd) l = (((JP.new (wh.zip wd)).sees l).rule, ((JP.new (wh.zip wd)).sees l).rat)) := rfl
      generalize ((JP.new (wh.zip wd)).sees l).rule = r1 at HV HCK
      generalize ((JP.new (wh.zip wd)).sees l).rat = r2 at HV HCK
      clear hj hr hf
      go_wp2_with (go_at_call 11; refine HV.out.mono ?_; rintro e w3 ⟨rfl, hk3⟩; have hb3 := hk3.blk HR2.out id; have e0 := hb3.cell 0; have e1 := hb3.cell 1; have f0 := hb3.free 0; have f1 := hb3.free 1; have b3 := hb3.lt; have HK3 := Lib.hid hk3; clear hk3 hb3)
      rw [HCK.out]
      refine bodyPost_ret (v := .agg #[.int .i64 r1, .int .i64 r2]) (by simp [results, Try.results15, go_sem, e0, e1]) rfl ⟨rfl, ?_⟩
      exact ((HF.out.trans HK3.out).setCell (p := ⟨w.heap.size + 1, 0, none⟩) (fun h => by dsimp only at h; omega) _).setCell (p := ⟨w.heap.size + 1, 1, none⟩) (fun h => by dsimp only at h; omega) _
end Go.Proofs.Ytmggfdhlbjlpjaa
