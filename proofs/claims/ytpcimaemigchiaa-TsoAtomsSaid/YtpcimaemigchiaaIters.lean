/- slices.Backward, as the reckoning calls it. -/
import Derived.Test.YtpcimaemigchiaaBack
import Derived.Test.YtpcimaemigchiaaEngC
set_option linter.unusedVariables false
set_option linter.unusedSimpArgs false
namespace Go.Eng
open Go Go.Proofs

abbrev Put := Int × Int
def encP (p : Put) : List Cell := [.i p.1, .i p.2]
abbrev putsS (l : List Put) : Cell := slC 2 encP l

def sBack1 : FSpec where
  G := OwnG 1 (List Put)
  args := fun _ => [.c (.ptr 0 0)]
  blks := fun γ => [(0, .row 22 [putsS γ.g])]
  pre := fun γ => γ.g.length ≤ 1000000
  res := fun _ => .any
  post := fun γ => [(0, .row 22 [putsS γ.g])]
  yields := fun γ => some (γ.g.length, fun k => [.c (.i (γ.g.length - 1 - k)), .agg (encP (γ.g.getD (γ.g.length - 1 - k) default))])

set_option maxRecDepth 100000 in
theorem back1_ok : Meets Try.prog 76 sBack1 where
  pn := fun γ j b h => by
    show j < 1
    by_cases e : 0 = j
    · omega
    · simp [sBack1, look, e] at h
  qn := fun γ j b h => by
    show j < 1
    by_cases e : 0 = j
    · omega
    · simp [sBack1, look, e] at h
  full := fun γ j h => by
    have : j = 0 := by have : j < 1 := h; omega
    subst this
    exact ⟨_, rfl⟩
  kp := fun γ j b h => ⟨b, h⟩
  body := ⟨_, Try.func76, rfl, rfl⟩
  run := fun γ h => nomatch h
  iter := fun ⟨l⟩ n item hy hpre F hs w vals hnone hargs hrep L J Jx hkeep hY h0 => by
    cases hy
    obtain ⟨h1, h2⟩ := hargs
    have h1 : vals.size = 1 := h1
    obtain ⟨b, hb, hv⟩ := h2 0 _ vals[0] rfl (Array.getElem?_eq_getElem (by omega))
    have hvals : vals = #[.pointer (some ⟨b, 0, none⟩)] := by
      refine Array.ext (by simpa using h1) fun i hi hi' => ?_
      have : i = 0 := by omega
      subst this
      exact hv
    subst hvals
    obtain ⟨x, cs, hx, hheap, hsz, hcs⟩ := row_of hrep (j := 0) rfl
    have : x = b := by rw [hb] at hx; simpa using hx.symm
    subst this
    obtain ⟨u, _, hcu, a, cap, hu, hcap, _, _, hel⟩ := hcs 0 _ rfl
    subst hu
    have hk : ∀ k W, J k W → Kept F w W := fun k W hJ => ⟨(hkeep k W hJ).1, (hkeep k W hJ).2⟩
    have hbF : ¬ F x := fun hF => hrep.apart x hF ⟨0, _, _, rfl, hb, rfl⟩
    have key : ∀ bb off, (0 < l.length → a = some ⟨bb, off, none⟩ ∧ ¬ F bb ∧ ∀ i, i < l.length → ∀ t, t < 2 → ∃ x, w.cell? ⟨bb, off + (i * 2 + t), none⟩ = some x ∧ Rel (Osum F hs (look (sBack1.blks ⟨l⟩))) w (slG encP l i t) noNames x) →
        CallsIn Fence.wide 0 Try.prog 76 #[.func (.yield L) #[] #[], .pointer (some ⟨x, 0, none⟩)] w fun e w' => (∃ v, e = .returned v) ∧ (J l.length w' ∨ Jx w') := by
      intro bb off h
      refine back_calls L x bb off cap a l.length (fun i => (l.getD i default).1) (fun i => (l.getD i default).2) hpre (fun hp => (h hp).1) J Jx (fun k W hJ => (hk k W hJ).cell hbF hcu) (fun k W hJ i hi => ?_) (fun k hk' W hJ => hY k hk' W hJ) w h0
      obtain ⟨_, h3, h4⟩ := h (by omega)
      obtain ⟨u0, h5, h6, _⟩ := h4 i hi 0 (by omega)
      obtain ⟨u1, h7, h8, _⟩ := h4 i hi 1 (by omega)
      subst h6; subst h8
      exact ⟨(hk k W hJ).cell h3 h5, (hk k W hJ).cell h3 h7⟩
    by_cases hp : 0 < l.length
    · obtain ⟨bb, off, h3, h4, _, h5⟩ := hel hp
      exact key bb off fun _ => ⟨h3, fun hF => h4 (.inl hF), h5⟩
    · exact key 0 0 fun h => (hp h).elim
end Go.Eng
