/- A pool's blocks, as the reckoning calls them. -/
import Derived.Test.YtmjogckeaaaicaaPoBack
import Derived.Test.YtmjogckeaaaicaaEngC
set_option linter.unusedVariables false
set_option linter.unusedSimpArgs false
namespace Go.Eng
open Go Go.Proofs

abbrev intsS (l : List Int) : Cell := slC 1 encI l
/-- A pool: its blocks' size, the first place, how many, and those that are free. -/
abbrev Pl := Int × Int × Int × List Int
def plC (p : Pl) : List Cell := [.i p.1, .i p.2.1, .i p.2.2.1, intsS p.2.2.2]
theorem CutE.goPl {P : Pl → Prop} {s b m : Int} {l : List Int} (h : P (s, b, m, l)) : CutE Pl P := ⟨⟨_, h⟩⟩
theorem CutE.goPl1 {A : Type} {P : Pl × A → Prop} {s b m : Int} {l : List Int} {a : A} (h : P ((s, b, m, l), a)) : CutE (Pl × A) P := ⟨⟨_, h⟩⟩
theorem CutE.goPl2 {P : Pl × Pl → Prop} {s b m : Int} {l : List Int} {s' b' m' : Int} {l' : List Int} (h : P ((s, b, m, l), (s', b', m', l'))) : CutE (Pl × Pl) P := ⟨⟨_, h⟩⟩
/-- The blocks' first places. -/
def plB (p : Pl) : List Int := (List.range p.2.2.1.toNat).map fun (k : Nat) => p.2.1 + (k : Int) * p.1
structure PlOk (p : Pl) : Prop where
  s1 : 1 ≤ p.1
  s8 : p.1 ≤ 8
  b1 : 1 ≤ p.2.1
  b160 : p.2.1 ≤ 160
  m0 : 0 ≤ p.2.2.1
  m16 : p.2.2.1 ≤ 16

def sBlk1 : FSpec where
  G := OwnG 1 Pl
  args := fun _ => [.c (.ptr 0 0)]
  blks := fun γ => [(0, .row 48 (plC γ.g))]
  pre := fun γ => PlOk γ.g
  res := fun _ => .any
  post := fun γ => [(0, .row 48 (plC γ.g))]
  yields := fun γ => some (γ.g.2.2.1.toNat, fun k => [.c (.i (γ.g.2.1 + (k : Int) * γ.g.1))])

set_option maxRecDepth 100000 in
theorem blk1_ok : Meets Try.prog 59 sBlk1 where
  pn := fun γ j b h => by
    show j < 1
    by_cases e : 0 = j
    · omega
    · simp [sBlk1, look, e] at h
  qn := fun γ j b h => by
    show j < 1
    by_cases e : 0 = j
    · omega
    · simp [sBlk1, look, e] at h
  full := fun γ j h => by
    have : j = 0 := by have : j < 1 := h; omega
    subst this
    exact ⟨_, rfl⟩
  kp := fun γ j b h => ⟨b, h⟩
  body := ⟨_, Try.func59, rfl, rfl⟩
  run := fun γ h => nomatch h
  iter := fun ⟨(s, bs, m, fr)⟩ n item hy hpre F hs w vals hnone hargs hrep L J Jx hkeep hY h0 => by
    cases hy
    obtain ⟨p1, p2, p3, p4, p5, p6⟩ := hpre
    have p1 : 1 ≤ s := p1
    have p2 : s ≤ 8 := p2
    have p3 : 1 ≤ bs := p3
    have p4 : bs ≤ 160 := p4
    have p5 : 0 ≤ m := p5
    have p6 : m ≤ 16 := p6
    obtain ⟨h1, h2⟩ := hargs
    have h1 : vals.size = 1 := h1
    obtain ⟨b, hb, hv⟩ := h2 0 _ vals[0] rfl (Array.getElem?_eq_getElem (by omega))
    have hvals : vals = #[.pointer (some ⟨b, 0, none⟩)] := by
      refine Array.ext (by simpa using h1) fun i hi hi' => ?_
      have : i = 0 := by omega
      subst this
      exact hv
    subst hvals
    obtain ⟨x, cs, hx, hheap, hsz, hcs⟩ := row_of hrep (j := 0) rfl
    have : x = b := by rw [hb] at hx; simpa using hx.symm
    subst this
    obtain ⟨u0, _, hc0, hu0, _⟩ := hcs 0 _ rfl
    obtain ⟨u1, _, hc1, hu1, _⟩ := hcs 1 _ rfl
    obtain ⟨u2, _, hc2, hu2, _⟩ := hcs 2 _ rfl
    subst hu0; subst hu1; subst hu2
    have hm : (m.toNat : Int) = m := by omega
    have hk : ∀ k W, J k W → Kept F w W := fun k W hJ => ⟨(hkeep k W hJ).1, (hkeep k W hJ).2⟩
    have hbF : ¬ F x := fun hF => hrep.apart x hF ⟨0, _, _, rfl, hb, rfl⟩
    exact blk_calls L x s bs m.toNat ⟨p1, p2⟩ ⟨p3, p4⟩ (by omega) J Jx (fun k W hJ => ⟨(hk k W hJ).cell hbF hc0, (hk k W hJ).cell hbF hc1, by rw [hm]; exact (hk k W hJ).cell hbF hc2⟩) (fun k hk' W hJ => hY k hk' W hJ) w h0
end Go.Eng
