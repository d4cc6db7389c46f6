/-
  Calls whose beginning and end are told beforehand, each shown by itself. It proves nothing of the program by itself.
-/
import Derived.Test.YticbhhakdmoahaaGreatEv16
set_option linter.unusedVariables false
set_option linter.unusedSimpArgs false
namespace Go.Evl
open Go Go.Sl
def eqInt : Int → Int → Bool
  | .ofNat a, .ofNat b => Nat.beq a b
  | .negSucc a, .negSucc b => Nat.beq a b
  | _, _ => false
theorem eqInt_eq {a b : Int} (h : eqInt a b = true) : a = b := by
  cases a <;> cases b <;> first | (cases h; done) | (have := Nat.eq_of_beq_eq_true h; subst this; rfl)
def eqFn : Fn → Fn → Bool
  | .func a, .func b => Nat.beq a b
  | _, _ => false
theorem eqFn_eq {a b : Fn} (h : eqFn a b = true) : a = b := by
  cases a <;> cases b <;> first | (cases h; done) | (have := Nat.eq_of_beq_eq_true h; subst this; rfl)
def eqBool : Bool → Bool → Bool
  | true, true => true
  | false, false => true
  | _, _ => false
theorem eqBool_eq {a b : Bool} (h : eqBool a b = true) : a = b := by
  cases a <;> cases b <;> first | rfl | cases h
theorem andE {a b : Bool} (h : (a && b) = true) : a = true ∧ b = true := by simpa using h
def eqAV : AV → AV → Bool
  | .bad, .bad => true
  | .b x, .b y => eqBool x y
  | .i k n, .i k' n' => Nat.beq (eqV.kc' k) (eqV.kc' k') && eqInt n n'
  | .s l n, .s l' n' => Nat.beq l l' && Nat.beq n n'
  | .pn, .pn => true
  | .p i o, .p i' o' => Nat.beq i i' && Nat.beq o o'
  | .sn, .sn => true
  | .se, .se => true
  | .sl a b c d, .sl a' b' c' d' => (Nat.beq a a' && Nat.beq b b') && (Nat.beq c c' && Nat.beq d d')
  | .sv a b c d, .sv a' b' c' d' => (Nat.beq a a' && Nat.beq b b') && (Nat.beq c c' && Nat.beq d d')
  | .mn, .mn => true
  | .m i, .m i' => Nat.beq i i'
  | .fn f c, .fn f' c' => eqFn f f' && eqAV c c'
  | .fnil, .fnil => true
  | .inil, .inil => true
  | .ifc t v, .ifc t' v' => Nat.beq t t' && eqAV v v'
  | .nil, .nil => true
  | .cons a t, .cons a' t' => eqAV a a' && eqAV t t'
  | .agg l, .agg l' => eqAV l l'
  | .tup l, .tup l' => eqAV l l'
  | _, _ => false
theorem eqAV_eq : ∀ {a b : AV}, eqAV a b = true → a = b := by
  intro a
  induction a with
  | b x => intro b h; cases b <;> first | (cases h; done) | (rw [eqBool_eq (show eqBool _ _ = true from h)])
  | i k n => intro b h; cases b <;> first | (cases h; done) | (obtain ⟨h1, h2⟩ := andE h; rw [kc'_eq] at h1; rw [eqInt_eq h2, of_decide_eq_true h1])
  | s l n => intro b h; cases b <;> first | (cases h; done) | (obtain ⟨h1, h2⟩ := andE h; rw [nbeq h1, nbeq h2])
  | p i o => intro b h; cases b <;> first | (cases h; done) | (obtain ⟨h1, h2⟩ := andE h; rw [nbeq h1, nbeq h2])
  | sl a b c d => intro b h; cases b <;> first | (cases h; done) | (obtain ⟨h1, h2⟩ := andE h; obtain ⟨h3, h4⟩ := andE h1; obtain ⟨h5, h6⟩ := andE h2; rw [nbeq h3, nbeq h4, nbeq h5, nbeq h6])
  | sv a b c d => intro b h; cases b <;> first | (cases h; done) | (obtain ⟨h1, h2⟩ := andE h; obtain ⟨h3, h4⟩ := andE h1; obtain ⟨h5, h6⟩ := andE h2; rw [nbeq h3, nbeq h4, nbeq h5, nbeq h6])
  | m i => intro b h; cases b <;> first | (cases h; done) | (rw [nbeq (show Nat.beq _ _ = true from h)])
  | fn f c ih => intro b h; cases b <;> first | (cases h; done) | (obtain ⟨h1, h2⟩ := andE h; rw [eqFn_eq h1, ih h2])
  | ifc t v ih => intro b h; cases b <;> first | (cases h; done) | (obtain ⟨h1, h2⟩ := andE h; rw [nbeq h1, ih h2])
  | cons x t ih1 ih2 => intro b h; cases b <;> first | (cases h; done) | (obtain ⟨h1, h2⟩ := andE h; rw [ih1 h1, ih2 h2])
  | agg l ih => intro b h; cases b <;> first | (cases h; done) | (rw [ih (show eqAV _ _ = true from h)])
  | tup l ih => intro b h; cases b <;> first | (cases h; done) | (rw [ih (show eqAV _ _ = true from h)])
  | _ => intro b h; cases b <;> first | rfl | cases h
def eqTr {α : Type} (q : α → α → Bool) : Tr α → Tr α → Bool
  | .nil, .nil => true
  | .nd l o r, .nd l' o' r' => ((match o, o' with | none, none => true | some x, some y => q x y | _, _ => false) && eqTr q l l') && eqTr q r r'
  | _, _ => false
theorem eqTr_eq {α : Type} {q : α → α → Bool} (hq : ∀ {a b}, q a b = true → a = b) : ∀ {a b : Tr α}, eqTr q a b = true → a = b := by
  intro a
  induction a with
  | nil => intro b h; cases b <;> first | rfl | cases h
  | nd l o r ih1 ih2 =>
    intro b h
    cases b with
    | nil => cases h
    | nd l' o' r' =>
      obtain ⟨h1, h2⟩ := andE h
      obtain ⟨h3, h4⟩ := andE h1
      rw [ih1 h4, ih2 h2]
      cases o <;> cases o' <;> first | rfl | (cases h3; done) | (rw [hq h3])
def eqBd : Body → Body → Bool
  | .bs l n, .bs l' n' => Nat.beq l l' && Nat.beq n n'
  | .bu l k n, .bu l' k' n' => (Nat.beq l l' && Nat.beq k k') && Nat.beq n n'
  | .tr s t, .tr s' t' => Nat.beq s s' && eqTr eqAV t t'
  | _, _ => false
theorem eqBd_eq {a b : Body} (h : eqBd a b = true) : a = b := by
  cases a <;> cases b <;> first
    | (cases h; done)
    | (obtain ⟨h1, h2⟩ := andE h; rw [nbeq h1, eqTr_eq (fun g => eqAV_eq g) h2]; done)
    | (obtain ⟨h1, h2⟩ := andE h; obtain ⟨h3, h4⟩ := andE h1; rw [nbeq h3, nbeq h4, nbeq h2]; done)
    | (obtain ⟨h1, h2⟩ := andE h; rw [nbeq h1, nbeq h2]; done)
def eqBlk : Blk → Blk → Bool
  | .cells T z c, .cells T' z' c' => (Nat.beq T T' && Nat.beq z z') && eqBd c c'
  | .it l n p, .it l' n' p' => (Nat.beq l l' && Nat.beq n n') && Nat.beq p p'
  | .mp k v, .mp k' v' => eqAV k k' && eqAV v v'
  | .mi a b c, .mi a' b' c' => (Nat.beq a a' && Nat.beq b b') && Nat.beq c c'
  | _, _ => false
theorem eqBlk_eq {a b : Blk} (h : eqBlk a b = true) : a = b := by
  cases a <;> cases b <;> first
    | (cases h; done)
    | (obtain ⟨h1, h2⟩ := andE h; obtain ⟨h3, h4⟩ := andE h1; rw [nbeq h3, nbeq h4, eqBd_eq h2]; done)
    | (obtain ⟨h1, h2⟩ := andE h; rw [eqAV_eq h1, eqAV_eq h2]; done)
    | (obtain ⟨h1, h2⟩ := andE h; obtain ⟨h3, h4⟩ := andE h1; rw [nbeq h3, nbeq h4, nbeq h2]; done)
def eqHp (H H' : Hp) : Bool := Nat.beq H.next H'.next && eqTr eqBlk H.t H'.t
theorem eqHp_eq {H H' : Hp} (h : eqHp H H' = true) : H = H' := by
  obtain ⟨h1, h2⟩ := andE h
  cases H; cases H'
  simp only [Hp.mk.injEq]
  exact ⟨nbeq h1, eqTr_eq (fun g => eqBlk_eq g) h2⟩
/-- A call: what it begins with, what it ends with. -/
structure Ck where
  l : AV
  H : Hp
  v : AV
  H' : Hp
/-- As it is told, where it begins as it is told; else as it runs. -/
noncomputable def ckF (p : Par) (n : Nat) (cks : List Ck) : CallF := fun f l H K => List.rec (motive := fun _ => Bool) (callF (evC p n) p.P p.msk p.orc f l H K) (fun c _ ih => Bool.rec (motive := fun _ => Bool) ih (K c.v c.H') (eqAV l c.l && eqHp H c.H)) cks
/-- Short forms. -/
def c (T s : Nat) (t : Tr AV) : Option Blk := some (.cells T 0 (.tr s t))
def d (T l n : Nat) : Option Blk := some (.cells T 0 (.bs l n))
def o (v : AV) : Tr AV := .nd .nil (some v) .nil
def j (n : Nat) : AV := .i .i64 (.ofNat n)
def w (n : Nat) : AV := .i .u32 (.ofNat n)
def q (n : Nat) : AV := .i .u8 (.ofNat n)
def u (l r : Tr Blk) : Tr Blk := .nd l none r
def x (l : Tr Blk) (b : Option Blk) (r : Tr Blk) : Tr Blk := .nd l b r
def z (l : Tr AV) (v : AV) (r : Tr AV) : Tr AV := .nd l (some v) r
/-- The call ends as it is told. -/
def CkOk (p : Par) (f : Nat) (c : Ck) : Prop := ∃ n, callF (evC p n) p.P p.msk p.orc f c.l c.H (fun v H => eqAV v c.v && eqHp H c.H') = true
theorem ck_ok {p : Par} (hp : ParOk p) {f nn : Nat} (ho : p.orc f = none) : ∀ {cks : List Ck}, (∀ c ∈ cks, CkOk p f c) → ∀ l H K m w W0 Fr vs, Inv1 m H → Mem W0 m H Fr w → relL m l vs → ckF p nn cks f l H K = true → CallRes p.P f vs w W0 Fr m K
  | [], _, l, H, K, m, w, W0, Fr, vs, hi, hs, hr, h => .inl (callFn_ok hp (evC_sound hp nn) ho hi hs hr h)
  | c :: cks, hc, l, H, K, m, w, W0, Fr, vs, hi, hs, hr, h => by
    have h : Bool.rec (motive := fun _ => Bool) (ckF p nn cks f l H K) (K c.v c.H') (eqAV l c.l && eqHp H c.H) = true := h
    cases hb : eqAV l c.l && eqHp H c.H with
    | false => rw [hb] at h; exact ck_ok hp ho (fun x hx => hc x (List.mem_cons_of_mem _ hx)) l H K m w W0 Fr vs hi hs hr h
    | true =>
      rw [hb] at h
      obtain ⟨h1, h2⟩ := andE hb
      have e1 := eqAV_eq h1
      have e2 := eqHp_eq h2
      subst e1 e2
      obtain ⟨n, hn⟩ := hc c (List.mem_cons_self ..)
      obtain ⟨g1, g2⟩ := callFn_ok hp (evC_sound hp n) ho hi hs hr hn
      refine .inl ⟨g1, g2.mono ?_⟩
      rintro en w' ⟨v, rfl, m', H', av, k1, k2, k3, k4, k5⟩
      obtain ⟨k6, k7⟩ := andE k5
      have e3 := eqAV_eq k6
      have e4 := eqHp_eq k7
      subst e3 e4
      exact ⟨v, rfl, m', _, _, k1, k2, k3, k4, h⟩
end Go.Evl
