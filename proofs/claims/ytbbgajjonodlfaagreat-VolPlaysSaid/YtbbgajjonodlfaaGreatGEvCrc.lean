/-
  A check sum over bytes, told at once. It proves nothing of the program by itself.
-/
import Derived.Test.YtbbgajjonodlfaaGreatGEv16
set_option linter.unusedVariables false
set_option linter.unusedSimpArgs false
namespace Go.Evl
open Go Go.Sl
/-! ### The sum -/
def crcBit (c : Nat) : Nat := Nat.xor (c / 2) (3988292384 * (c % 2))
def bitsN : Nat → Nat → Nat
  | 0, c => c
  | j + 1, c => bitsN j (crcBit c)
def crcByte (c : Nat) (x : UInt8) : Nat := bitsN 8 (Nat.xor c x.toNat)
def crcRun : List UInt8 → Nat → Nat
  | [], c => c
  | x :: l, c => crcRun l (crcByte c x)
def crcOf (c : Nat) (l : List UInt8) : Nat := Nat.xor (crcRun l (Nat.xor c 4294967295)) 4294967295
theorem xor_lt {a b : Nat} (ha : a < 4294967296) (hb : b < 4294967296) : Nat.xor a b < 4294967296 := by
  have := Nat.xor_lt_two_pow (n := 32) (x := a) (y := b) (by simpa using ha) (by simpa using hb)
  simpa using this
theorem crcBit_lt {c : Nat} (h : c < 4294967296) : crcBit c < 4294967296 := by
  unfold crcBit
  apply xor_lt
  · omega
  · have : c % 2 < 2 := Nat.mod_lt _ (by decide)
    omega
theorem bitsN_lt : ∀ (j : Nat) {c : Nat}, c < 4294967296 → bitsN j c < 4294967296
  | 0, _, h => h
  | j + 1, _, h => bitsN_lt j (crcBit_lt h)
theorem bitsN_succ : ∀ (j c : Nat), bitsN (j + 1) c = crcBit (bitsN j c)
  | 0, _ => rfl
  | j + 1, c => by rw [bitsN, bitsN_succ j (crcBit c)]; rfl
theorem crcByte_lt {c : Nat} {x : UInt8} (h : c < 4294967296) : crcByte c x < 4294967296 := bitsN_lt 8 (xor_lt h (by have := x.toNat_lt; omega))
theorem crcRun_lt : ∀ (l : List UInt8) {c : Nat}, c < 4294967296 → crcRun l c < 4294967296
  | [], _, h => h
  | _ :: l, _, h => crcRun_lt l (crcByte_lt h)
theorem crcRun_snoc : ∀ (l : List UInt8) (x : UInt8) (c : Nat), crcRun (l ++ [x]) c = crcByte (crcRun l c) x
  | [], _, _ => rfl
  | y :: l, x, c => by rw [List.cons_append, crcRun, crcRun_snoc l x]; rfl
theorem bit_odd {d : Nat} (h : ((d % 2 : Nat) : Int) = 1) : Nat.xor (d / 2) 3988292384 = crcBit d := by
  unfold crcBit
  rw [show d % 2 = 1 from by omega]
theorem bit_even {d : Nat} (h : ¬ ((d % 2 : Nat) : Int) = 1) : d / 2 = crcBit d := by
  unfold crcBit
  rw [show d % 2 = 0 from by omega]
  exact (Nat.xor_zero _).symm
theorem crcRun_take {l : List UInt8} {k c0 : Nat} {x : UInt8} (hx : l[k]? = some x) : crcByte (crcRun (l.take k) c0) x = crcRun (l.take (k + 1)) c0 := by
  rw [← crcRun_snoc]
  congr 1
  rw [List.take_add_one, hx]
  rfl
/-! ### Reckoned by the kernel -/
noncomputable def bitK (c : Nat) (K : Nat → Bool) : Bool := natK (Nat.xor (Nat.div c 2) (Nat.mul 3988292384 (Nat.mod c 2))) K
theorem bitK_eq (c : Nat) (K : Nat → Bool) : bitK c K = K (crcBit c) := natK_eq _ _
noncomputable def crcK (n : Nat) : Nat → Nat → (Nat → Bool) → Bool := Nat.rec (motive := fun _ => Nat → Nat → (Nat → Bool) → Bool) (fun c _ K => K c)
  (fun _ ih c y K => natK (Nat.xor c (Nat.mod y 256)) fun c => bitK c fun c => bitK c fun c => bitK c fun c => bitK c fun c => bitK c fun c => bitK c fun c => bitK c fun c => bitK c fun c => natK (Nat.div y 256) fun y => ih c y K) n
theorem crcK_eq : ∀ (n c y : Nat) (K : Nat → Bool), crcK n c y K = K (crcRun (bytesOf n y) c)
  | 0, _, _, _ => rfl
  | n + 1, c, y, K => by
    have hx : (UInt8.ofNat y).toNat = Nat.mod y 256 := by rw [UInt8.toNat_ofNat']; rfl
    have e : bytesOf (n + 1) y = UInt8.ofNat y :: bytesOf n (y / 256) := rfl
    rw [e, crcRun]
    unfold crcByte
    rw [hx]
    show (natK (Nat.xor c (Nat.mod y 256)) fun c => bitK c fun c => bitK c fun c => bitK c fun c => bitK c fun c => bitK c fun c => bitK c fun c => bitK c fun c => bitK c fun c => natK (Nat.div y 256) fun y => crcK n c y K) = _
    rw [natK_eq, bitK_eq, bitK_eq, bitK_eq, bitK_eq, bitK_eq, bitK_eq, bitK_eq, bitK_eq, natK_eq]
    exact crcK_eq n _ _ K
/-- What a check sum's function has to tell. -/
def CrcSpec (P : Program) (f : Nat) : Prop := ∀ (c b off n cap T : Nat) (cs : List Value) (l : List UInt8), c < 4294967296 → l.length = n → n ≤ 9223372036854775807 → (∀ (i : Nat) (x : UInt8), l[i]? = some x → cs[off + i]? = some (u8V x)) →
  Ctr P f [.int .u32 (c : Int), slc b off n cap] [row b T cs] (fun v Ps => v = .int .u32 ((crcOf c l : Nat) : Int) ∧ Ps = [row b T cs])
noncomputable def bsK (c : Body) (K : Nat → Nat → Bool) : Bool := Body.rec (motive := fun _ => (Nat → Nat → Bool) → Bool) (fun l n K => K l n) (fun _ _ _ _ => false) (fun _ _ _ => false) c K
theorem bsK_sound {c : Body} {K : Nat → Nat → Bool} (h : bsK c K = true) : ∃ l n, c = .bs l n ∧ K l n = true := by
  cases c with
  | bs l n => exact ⟨l, n, rfl, h⟩
  | _ => cases h
noncomputable def crcF : CallF := fun _ l H K => asCons l fun cv r => asCons r fun sv r2 => asNil r2 (asI cv fun k c => andK (Nat.beq (kc k) (kc .u32)) (Int.rec (motive := fun _ => Bool) (fun c => andK (Nat.blt c 4294967296)
  (asSl sv fun id off n => blkK H id fun T z body => bsK body fun len x => andK (Nat.ble (Nat.add off n) len) (andK (Nat.ble n 9223372036854775807) (natK (Nat.div x (Nat.pow 256 off)) fun y => natK (Nat.xor c 4294967295) fun c => crcK n c y fun c => natK (Nat.xor c 4294967295) fun c => turnK H id T z body fun H => K (.i .u32 (Int.ofNat c)) H)))) (fun _ => false) c))
theorem crc_ok {P : Program} {f : FuncId} (hs : CrcSpec P f) : ∀ l H K m w W0 Fr vs, Inv1 m H → Mem W0 m H Fr w → relL m l vs → crcF f l H K = true → CallRes P f vs w W0 Fr m K := by
  intro l H K m w W0 Fr vs hi hm hr h
  obtain ⟨cv, r, rfl, h1⟩ := asCons_sound h
  obtain ⟨sv, r2, rfl, h2⟩ := asCons_sound h1
  obtain ⟨rfl, h3⟩ := asNil_sound h2
  obtain ⟨k, c, rfl, h4⟩ := asI_sound h3
  obtain ⟨h5, h6⟩ := andK_sound h4
  have hk : k = .u32 := kc_inj (k' := .u32) h5
  subst hk
  cases c with
  | negSucc c => cases h6
  | ofNat c =>
    obtain ⟨h7, h8⟩ := andK_sound (c := Nat.blt c 4294967296) h6
    have h7 := blt_lt h7
    obtain ⟨u1, us, r1, r2', rfl⟩ := hr
    obtain ⟨u2, us2, r3, r4, rfl⟩ := r2'
    have r4 : us2 = [] := r4
    subst r4
    have r1 : u1 = .int .u32 (c : Int) := r1
    subst r1
    obtain ⟨id, off, n, b, cc, cap, g1, rfl, g3⟩ := asSl_sound h8 r3
    obtain ⟨T, z, body, g4, g5⟩ := blkK_sound g3
    obtain ⟨len, x, rfl, g6⟩ := bsK_sound g5
    obtain ⟨g7, g8⟩ := andK_sound g6
    obtain ⟨g9, g10⟩ := andK_sound g8
    simp only [natK_eq, crcK_eq, turnK_eq] at g10
    have g7 : off + n ≤ len := Nat.le_of_ble_eq_true g7
    have g9 := Nat.le_of_ble_eq_true g9
    obtain ⟨R, b', cap', vs, rest, k1, k2, k3, k4, k5, k6⟩ := hm.opn (hi.1.pos hi.2 g1) g4
    have hb : b' = b := by rw [k1] at g1; cases g1; rfl
    subst hb
    have k2' : vs = (bytesOf len x).map u8V := k2
    have hcs : ∀ (i : Nat) (y : UInt8), (bytesOf n (Nat.div x (Nat.pow 256 off)))[i]? = some y → (vs ++ rest)[off + i]? = some (u8V y) := by
      intro i y hy
      have hi : i < n := by
        rcases Nat.lt_or_ge i n with g | g
        · exact g
        · rw [List.getElem?_eq_none (by rw [bytesOf_length]; exact g)] at hy; cases hy
      rw [List.getElem?_append_left (by rw [k2']; simp [bytesOf_length]; omega), k2', List.getElem?_map, bytesOf_get len x (off + i) (by omega)]
      rw [bytesOf_get n _ i hi] at hy
      cases hy
      simp only [Option.map_some]
      congr 2
      show UInt8.ofNat (x / 256 ^ (off + i)) = UInt8.ofNat (x / 256 ^ off / 256 ^ i)
      rw [Nat.div_div_eq_div_mul, Nat.pow_add]
    have hc := hs c b' off n cap T (vs ++ rest) (bytesOf n (Nat.div x (Nat.pow 256 off))) h7 (bytesOf_length _ _) g9 hcs
    left
    refine ⟨hc.1, ?_⟩
    have s1 : Sat W0 (sep ([row b' T (vs ++ rest)] ++ [sep (R.map (asn m) ++ [Fr])])) w := k4.mono (Ent.frame (L := [row b' T (vs ++ rest)]) (R := R.map (asn m) ++ [Fr]))
    refine (hc.2 W0 (sep (R.map (asn m) ++ [Fr])) w s1).mono ?_
    rintro en w' ⟨v, Ps, rfl, ⟨rfl, rfl⟩, s2⟩
    have s3 : Sat W0 (sep (row b' T (vs ++ rest) :: (R.map (asn m) ++ [Fr]))) w' := s2.mono (Ent.unframe (L := [row b' T (vs ++ rest)]) (R := R.map (asn m) ++ [Fr]))
    have s4 := s3.mono (Ent.cons (Ent.asn k1 k2 k3) (Ent.refl _))
    exact ⟨_, rfl, m, _, .i .u32 (Int.ofNat (crcOf c (bytesOf n (Nat.div x (Nat.pow 256 off))))), Map.le_refl m, ⟨hi.1.tree _, hi.2⟩, rfl, s4.mono (k5 m _), g10⟩
/-! ### A row filled -/
def flN (cs : List Value) (off k : Nat) (v : Value) : List Value := cs.take off ++ (List.replicate k v ++ cs.drop (off + k))
theorem flN_zero (cs : List Value) (off : Nat) (v : Value) : flN cs off 0 v = cs := by unfold flN; simp
theorem flN_len {cs : List Value} {off k : Nat} {v : Value} (h : off + k ≤ cs.length) : (flN cs off k v).length = cs.length := by unfold flN; simp; omega
theorem flN_set {cs : List Value} {off k : Nat} {v : Value} (h : off + k < cs.length) : (flN cs off k v).set (off + k) v = flN cs off (k + 1) v := by
  unfold flN
  have h1 : (cs.take off).length = off := by simp; omega
  rw [List.set_append_right _ _ (by omega), h1, List.set_append_right _ _ (by simp)]
  rw [List.length_replicate, show off + k - off - k = 0 from by omega, List.drop_eq_getElem_cons (by omega : off + k < cs.length), List.set_cons_zero, List.replicate_succ', List.append_assoc]
  rfl
def FillSpec (P : Program) (f : Nat) : Prop := ∀ (b off n cap T : Nat) (cs : List Value) (x : Nat), off + n ≤ cs.length → n ≤ 9223372036854775807 →
  Ctr P f [slc b off n cap, .int .u8 (x : Int)] [row b T cs] (fun v Ps => v = .tuple #[] ∧ Ps = [row b T (flN cs off n (.int .u8 (x : Int)))])
theorem pow255 : ∀ n : Nat, ∃ q, 256 ^ n = 255 * q + 1
  | 0 => ⟨0, rfl⟩
  | n + 1 => by
    obtain ⟨q, hq⟩ := pow255 n
    exact ⟨256 * q + 1, by rw [Nat.pow_succ, hq]; omega⟩
theorem rep_bytes {x : Nat} (hx : x < 256) : ∀ n, bytesOf n (x * ((256 ^ n - 1) / 255)) = List.replicate n (UInt8.ofNat x)
  | 0 => rfl
  | n + 1 => by
    have h1 : (256 ^ (n + 1) - 1) / 255 = 1 + 256 * ((256 ^ n - 1) / 255) := by
      obtain ⟨q, hq⟩ := pow255 n
      have h4 : 256 ^ (n + 1) = 256 ^ n * 256 := Nat.pow_succ ..
      rw [h4, hq]
      omega
    rw [h1, Nat.mul_add, Nat.mul_one, ← Nat.mul_assoc, Nat.mul_comm x 256, Nat.mul_assoc]
    have e : bytesOf (n + 1) (x + 256 * (x * ((256 ^ n - 1) / 255))) = UInt8.ofNat (x + 256 * (x * ((256 ^ n - 1) / 255))) :: bytesOf n ((x + 256 * (x * ((256 ^ n - 1) / 255))) / 256) := rfl
    rw [e, show (x + 256 * (x * ((256 ^ n - 1) / 255))) / 256 = x * ((256 ^ n - 1) / 255) from by omega, rep_bytes hx n, List.replicate_succ]
    congr 1
    rw [← ofNat_mod, show (x + 256 * (x * ((256 ^ n - 1) / 255))) % 256 = x % 256 from by omega, ofNat_mod]
noncomputable def fillF : CallF := fun _ l H K => asCons l fun sv r => asCons r fun xv r2 => asNil r2 (asI xv fun k x => andK (Nat.beq (kc k) (kc .u8)) (Int.rec (motive := fun _ => Bool) (fun x => andK (Nat.blt x 256)
  (asSl sv fun id off n => blkK H id fun T z body => bsK body fun len y => andK (Nat.ble (Nat.add off n) len) (andK (Nat.ble n 9223372036854775807) (natK (splice y off n (Nat.mul x (Nat.div (Nat.sub (Nat.pow 256 n) 1) 255))) fun y => turnK H id T z (.bs len y) fun H => K (.tup .nil) H)))) (fun _ => false) x))
theorem fill_ok {P : Program} {f : FuncId} (hs : FillSpec P f) : ∀ l H K m w W0 Fr vs, Inv1 m H → Mem W0 m H Fr w → relL m l vs → fillF f l H K = true → CallRes P f vs w W0 Fr m K := by
  intro l H K m w W0 Fr vs hi hm hr h
  obtain ⟨sv, r, rfl, h1⟩ := asCons_sound h
  obtain ⟨xv, r2, rfl, h2⟩ := asCons_sound h1
  obtain ⟨rfl, h3⟩ := asNil_sound h2
  obtain ⟨k, c, rfl, h4⟩ := asI_sound h3
  obtain ⟨h5, h6⟩ := andK_sound h4
  have hk : k = .u8 := kc_inj (k' := .u8) h5
  subst hk
  cases c with
  | negSucc c => cases h6
  | ofNat c =>
    obtain ⟨h7, h8⟩ := andK_sound (c := Nat.blt c 256) h6
    have h7 := blt_lt h7
    obtain ⟨u1, us, r1, r2', rfl⟩ := hr
    obtain ⟨u2, us2, r3, r4, rfl⟩ := r2'
    have r4 : us2 = [] := r4
    subst r4
    have r3 : u2 = .int .u8 (c : Int) := r3
    subst r3
    obtain ⟨id, off, n, b, cc, cap, g1, rfl, g3⟩ := asSl_sound h8 r1
    obtain ⟨T, z, body, g4, g5⟩ := blkK_sound g3
    obtain ⟨len, x, rfl, g6⟩ := bsK_sound g5
    obtain ⟨g7, g8⟩ := andK_sound g6
    obtain ⟨g9, g10⟩ := andK_sound g8
    simp only [natK_eq, turnK_eq] at g10
    have g7 : off + n ≤ len := Nat.le_of_ble_eq_true g7
    have g9 := Nat.le_of_ble_eq_true g9
    obtain ⟨R, b', cap', vs, rest, k1, k2, k3, k4, k5, k6⟩ := hm.opn (hi.1.pos hi.2 g1) g4
    have hb : b' = b := by rw [k1] at g1; cases g1; rfl
    subst hb
    have k2' : vs = (bytesOf len x).map u8V := k2
    have hvl : vs.length = len := by rw [k2']; simp [bytesOf_length]
    have hc := hs b' off n cap T (vs ++ rest) c (by rw [List.length_append]; omega) g9
    have hnew : flN (vs ++ rest) off n (.int .u8 (c : Int)) = (bytesOf len (splice x off n (Nat.mul c (Nat.div (Nat.sub (Nat.pow 256 n) 1) 255)))).map u8V ++ rest := by
      rw [splice_eq len x off n _ g7]
      have e1 : bytesOf n (Nat.mul c (Nat.div (Nat.sub (Nat.pow 256 n) 1) 255)) = List.replicate n (UInt8.ofNat c) := rep_bytes h7 n
      have e2 : u8V (UInt8.ofNat c) = .int .u8 (c : Int) := by
        simp only [u8V, UInt8.toNat_ofNat']
        rw [Nat.mod_eq_of_lt (by simpa using h7)]
      rw [e1]
      simp only [List.map_append, List.map_replicate, e2, List.map_take, List.map_drop, ← k2']
      unfold flN
      rw [List.take_append_of_le_length (by omega), List.drop_append_of_le_length (by omega)]
      simp
    left
    refine ⟨hc.1, ?_⟩
    have s1 : Sat W0 (sep ([row b' T (vs ++ rest)] ++ [sep (R.map (asn m) ++ [Fr])])) w := k4.mono (Ent.frame (L := [row b' T (vs ++ rest)]) (R := R.map (asn m) ++ [Fr]))
    refine (hc.2 W0 (sep (R.map (asn m) ++ [Fr])) w s1).mono ?_
    rintro en w' ⟨v, Ps, rfl, ⟨rfl, rfl⟩, s2⟩
    rw [hnew] at s2
    have s3 : Sat W0 (sep (row b' T ((bytesOf len (splice x off n (Nat.mul c (Nat.div (Nat.sub (Nat.pow 256 n) 1) 255)))).map u8V ++ rest) :: (R.map (asn m) ++ [Fr]))) w' := s2.mono (Ent.unframe (L := [row b' T _]) (R := R.map (asn m) ++ [Fr]))
    have s4 := s3.mono (Ent.cons (Ent.asn (c := .bs len (splice x off n (Nat.mul c (Nat.div (Nat.sub (Nat.pow 256 n) 1) 255)))) k1 (by rfl) (k3.same (by rw [hvl]; simp [bytesOf_length]))) (Ent.refl _))
    exact ⟨_, rfl, m, _, .tup .nil, Map.le_refl m, ⟨hi.1.tree _, hi.2⟩, ⟨[], rfl, rfl⟩, s4.mono (k5 m _), g10⟩
/-! ### Its operations -/
section
variable {P : Program} {e : Env} {o : Oper} {x y : Operand} {xT yT : TypeId}
theorem wrapN {n : Nat} (h : n < 4294967296) : IntKind.u32.wrap (n : Int) = n := wrap_u32 (by omega) (by omega)
theorem bv32 {a : Nat} (ha : a < 4294967296) : (BitVec.ofInt IntKind.u32.bits (a : Int)).toNat = a := bv_nat (w := 32) (by simpa using ha)
theorem p_xor32 {a b : Nat} (hop : o.op = .binOp .xor xT x y yT) (hx : ev e x = .int .u32 (a : Int)) (hy : ev e y = .int .u32 (b : Int)) (ha : a < 4294967296) (hb : b < 4294967296) : PRun P e o (.int .u32 ((Nat.xor a b : Nat) : Int)) := by
  have := p_xor (P := P) hop hx hy
  rw [BitVec.toNat_xor, bv32 ha, bv32 hb] at this
  rwa [show IntKind.u32.wrap ((a ^^^ b : Nat) : Int) = ((Nat.xor a b : Nat) : Int) from wrapN (xor_lt ha hb)] at this
theorem p_low32 {a : Nat} (hop : o.op = .binOp .and xT x y yT) (hx : ev e x = .int .u32 (a : Int)) (hy : ev e y = .int .u32 1) (ha : a < 4294967296) : PRun P e o (.int .u32 ((a % 2 : Nat) : Int)) := by
  have := p_and (P := P) hop hx hy
  rw [BitVec.toNat_and, bv32 ha, show (BitVec.ofInt IntKind.u32.bits 1).toNat = 1 from by decide, Nat.and_one_is_mod] at this
  rwa [wrapN (by omega)] at this
theorem p_half32 {a : Nat} {k' : IntKind} (hop : o.op = .binOp .shr xT x y yT) (hx : ev e x = .int .u32 (a : Int)) (hy : ev e y = .int k' 1) : PRun P e o (.int .u32 ((a / 2 : Nat) : Int)) := by
  have := p_shr (P := P) hop hx hy (by decide)
  rw [show (2 : Int) ^ (min (1 : Int).toNat IntKind.u32.bits) = 2 from by decide, Int.fdiv_eq_ediv_of_nonneg _ (by decide)] at this
  rwa [show ((a : Int) / 2) = ((a / 2 : Nat) : Int) from by omega] at this
theorem p_not32 {a : Nat} (hop : o.op = .unOp .xor xT x) (hx : ev e x = .int .u32 (a : Int)) (ha : a < 4294967296) : PRun P e o (.int .u32 ((Nat.xor a 4294967295 : Nat) : Int)) := by
  intro w
  unfold execOp; rw [hop]; simp only [hx, Op.unary, Op.intBits]
  have e1 : (BitVec.ofInt IntKind.u32.bits IntKind.u32.max ^^^ BitVec.ofInt IntKind.u32.bits (a : Int)).toNat = Nat.xor a 4294967295 := by
    rw [BitVec.toNat_xor, bv32 ha, show (BitVec.ofInt IntKind.u32.bits IntKind.u32.max).toNat = 4294967295 from by decide]
    exact Nat.xor_comm _ _
  simp only [show IntKind.u32.signed = false from rfl, Bool.false_eq_true, if_false]
  rw [e1, wrapN (xor_lt ha (by decide))]
  rfl
end
end Go.Evl
