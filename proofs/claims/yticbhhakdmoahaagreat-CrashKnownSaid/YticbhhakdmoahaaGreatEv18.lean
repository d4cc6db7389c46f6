/-
  Calls told beforehand, where only a part of the last memory is told. It proves nothing of the program by itself.
-/
import Derived.Test.YticbhhakdmoahaaGreatEv17
set_option linter.unusedVariables false
set_option linter.unusedSimpArgs false
namespace Go.Evl
open Go Go.Sl
def subO {α : Type} (q : α → α → Bool) : Option α → Option α → Bool
  | none, _ => true
  | some x, some y => q x y
  | some _, none => false
/-- The first is a part of the second. -/
def subTr {α : Type} (q : α → α → Bool) : Tr α → Tr α → Bool
  | .nil, _ => true
  | .nd l o r, .nd l' o' r' => (subO q o o' && subTr q l l') && subTr q r r'
  | .nd _ _ _, .nil => false
theorem subTr_sub {α : Type} {q : α → α → Bool} (hq : ∀ {a b}, q a b = true → a = b) : ∀ {a b : Tr α} {f : Nat → Nat}, subTr q a b = true → (a.entries f).Sublist (b.entries f) := by
  intro a
  induction a with
  | nil => intro b f _; exact List.nil_sublist _
  | nd l o r ih1 ih2 =>
    intro b f h
    cases b with
    | nil => cases h
    | nd l' o' r' =>
      obtain ⟨h1, h2⟩ := andE h
      obtain ⟨h3, h4⟩ := andE h1
      show List.Sublist ((match o with | some v => [(f 1, v)] | none => []) ++ (l.entries (fun j => f (2 * j)) ++ r.entries (fun j => f (2 * j + 1)))) ((match o' with | some v => [(f 1, v)] | none => []) ++ (l'.entries (fun j => f (2 * j)) ++ r'.entries (fun j => f (2 * j + 1))))
      refine List.Sublist.append ?_ (List.Sublist.append (ih1 h4) (ih2 h2))
      cases o with
      | none => exact List.nil_sublist _
      | some x => cases o' with
        | none => cases h3
        | some y => rw [hq (show q x y = true from h3)]; exact List.Sublist.refl _
theorem Ent.sub {L M : List Assn} (h : L.Sublist M) : Ent (sep M) (sep L) := by
  induction h with
  | slnil => exact Ent.refl _
  | cons a _ ih => exact (Ent.drop _ _).trans ih
  | cons_cons a _ ih => exact Ent.cons (Ent.refl _) ih
def subHp (H' H : Hp) : Bool := Nat.beq H'.next H.next && subTr eqBlk H'.t H.t
theorem Mem.sub {W0 w : World} {m : Map} {H H' : Hp} {Fr : Assn} (h : subHp H' H = true) (hs : Mem W0 m H Fr w) : Mem W0 m H' Fr w := by
  obtain ⟨_, h2⟩ := andE h
  have h3 := subTr_sub (f := id) (fun g => eqBlk_eq g) h2
  refine hs.mono (Ent.append (Ent.sub ?_) (Ent.refl _))
  exact h3.map _
/-- The call ends as it is told; there may be more. -/
def CkOk2 (p : Par) (f : Nat) (c : Ck) : Prop := ∃ n, callF (evC p n) p.P p.msk p.orc f c.l c.H (fun v H => eqAV v c.v && subHp c.H' H) = true
theorem ck_ok2 {p : Par} (hp : ParOk p) {f nn : Nat} (ho : p.orc f = none) : ∀ {cks : List Ck}, (∀ c ∈ cks, CkOk2 p f c) → ∀ l H K m w W0 Fr vs, Inv1 m H → Mem W0 m H Fr w → relL m l vs → ckF p nn cks f l H K = true → CallRes p.P f vs w W0 Fr m K
  | [], _, l, H, K, m, w, W0, Fr, vs, hi, hs, hr, h => .inl (callFn_ok hp (evC_sound hp nn) ho hi hs hr h)
  | c :: cks, hc, l, H, K, m, w, W0, Fr, vs, hi, hs, hr, h => by
    have h : Bool.rec (motive := fun _ => Bool) (ckF p nn cks f l H K) (K c.v c.H') (eqAV l c.l && eqHp H c.H) = true := h
    cases hb : eqAV l c.l && eqHp H c.H with
    | false => rw [hb] at h; exact ck_ok2 hp ho (fun x hx => hc x (List.mem_cons_of_mem _ hx)) l H K m w W0 Fr vs hi hs hr h
    | true =>
      rw [hb] at h
      obtain ⟨h1, h2⟩ := andE hb
      have e1 := eqAV_eq h1
      have e2 := eqHp_eq h2
      subst e1 e2
      obtain ⟨n, hn⟩ := hc c (List.mem_cons_self ..)
      obtain ⟨g1, g2⟩ := callFn_ok hp (evC_sound hp n) ho hi hs hr hn
      refine .inl ⟨g1, g2.mono ?_⟩
      rintro en w' ⟨v, rfl, m', H', av, k1, k2, k3, k4, k5⟩
      obtain ⟨k6, k7⟩ := andE k5
      have e3 := eqAV_eq k6
      subst e3
      have hnx : c.H'.next = H'.next := nbeq (andE k7).1
      exact ⟨v, rfl, m', c.H', _, k1, ⟨⟨by rw [hnx]; exact k2.1.1, by rw [hnx]; exact k2.1.2⟩, k2.2⟩, k3, Mem.sub k7 k4, h⟩
end Go.Evl
