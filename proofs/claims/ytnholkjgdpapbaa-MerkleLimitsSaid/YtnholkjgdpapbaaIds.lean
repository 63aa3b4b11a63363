/- Arrays of bytes as values; '==' in the model on flat values (structs and arrays of integers, bools and strings, at any depth). No condition. -/
import Derived.Test.YtnholkjgdpapbaaWords
import Derived.ChangeKeysEq
import Derived.WalkSpells
import Derived.WalkLawsBesides
namespace Go.Proofs.Ytnholkjgdpapbaa
open Go.RowKit

/-- A byte as a value, and the cells of an array of bytes. -/
def u8 (b : UInt8) : Value := .int .u8 (b.toNat : Int)
def bs (l : List UInt8) : List Value := l.map u8
@[simp] theorem bs_length (l : List UInt8) : (bs l).length = l.length := by simp [bs]
theorem u8_inj {a b : UInt8} (h : u8 a = u8 b) : a = b := by
  simp only [u8, Value.int.injEq, true_and] at h
  exact UInt8.toNat_inj.1 (by omega)
theorem bs_inj {a b : List UInt8} (h : bs a = bs b) : a = b := (List.map_inj_right (fun _ _ h => u8_inj h)).1 h
abbrev By (n : Nat) := { l : List UInt8 // l.length = n }
@[simp] theorem By.len {n : Nat} (i : By n) : i.1.length = n := i.2

/-- The kinds of scalar cells. -/
inductive Kd where
  | int (k : IntKind)
  | bool
  | str

def Kd.ok : Kd → Value → Prop
  | .int k, .int k' _ => k' = k
  | .bool, .bool _ => True
  | .str, .string _ => True
  | _, _ => False

/-- Two scalars are the same. -/
def same : Value → Value → Bool
  | .int _ a, .int _ b => a == b
  | .bool a, .bool b => a == b
  | .string a, .string b => a == b
  | _, _ => false

def sames : List Value → List Value → Bool
  | [], [] => true
  | a :: as, b :: bs => same a b && sames as bs
  | _, _ => false

/-- The kinds of the cells of a flat type. -/
def fieldsKinds (P : Program) (k : TypeId → Option (List Kd)) : List Field → Nat → Option (List Kd)
  | [], _ => some []
  | f :: fs, off => match P.info? f.type, k f.type with
    | some i, some ks => if f.name ≠ "_" ∧ f.offset = off ∧ ks.length = i.size then (fieldsKinds P k fs (off + i.size)).map (ks ++ ·) else none
    | _, _ => none
def kindsOf (P : Program) : Nat → TypeId → Option (List Kd)
  | 0, _ => none
  | d + 1, t =>
    match P.underlying t with
    | some (.int k) => some [.int k]
    | some .bool => some [.bool]
    | some .string => some [.str]
    | some (.array n e) => match P.info? e, kindsOf P d e with
      | some i, some ks => if ks.length = i.size ∧ P.cellsOf e = i.size then some (List.replicate n ks).flatten else none
      | _, _ => none
    | some (.struct fs) => if P.stoodInHeld t then none else fieldsKinds P (kindsOf P d) fs.toList 0
    | _ => none

inductive Fits : List Kd → List Value → Prop
  | nil : Fits [] []
  | cons {k ks v vs} : k.ok v → Fits ks vs → Fits (k :: ks) (v :: vs)

theorem Fits.length {ks vs} (h : Fits ks vs) : vs.length = ks.length := by induction h <;> simp_all
theorem Fits.append {ks vs ks' vs'} (h : Fits ks vs) (h' : Fits ks' vs') : Fits (ks ++ ks') (vs ++ vs') := by
  induction h with
  | nil => exact h'
  | cons hk _ ih => exact .cons hk ih
theorem Fits.split : ∀ {ks ks' : List Kd} {vs : List Value}, Fits (ks ++ ks') vs → Fits ks (vs.take ks.length) ∧ Fits ks' (vs.drop ks.length)
  | [], _, _, h => ⟨by simpa using Fits.nil, by simpa using h⟩
  | k :: ks, ks', vs, h => by
    cases h with
    | cons hk hr =>
      obtain ⟨h1, h2⟩ := Fits.split (ks := ks) hr
      exact ⟨.cons hk h1, h2⟩
theorem Fits.bs (l : List UInt8) : Fits (List.replicate l.length (.int .u8)) (bs l) := by
  induction l with
  | nil => exact .nil
  | cons b l ih => exact .cons rfl ih

theorem ba_beq (a b : ByteArray) : (a == b) = true ↔ a = b := by
  rw [beq_toListBytes, beq_iff_eq, ByteArray.toList_eq, ByteArray.toList_eq]
  constructor
  · intro h; cases a; cases b; simpa using h
  · rintro rfl; rfl
theorem sames_append : ∀ {as bs as' bs' : List Value}, as.length = bs.length → sames (as ++ as') (bs ++ bs') = (sames as bs && sames as' bs')
  | [], [], _, _, _ => by simp [sames]
  | a :: as, b :: bs, _, _, h => by
    simp only [List.cons_append, sames, sames_append (as := as) (bs := bs) (by simpa using h), Bool.and_assoc]
  | [], _ :: _, _, _, h => by simp at h
  | _ :: _, [], _, _, h => by simp at h
theorem sames_eq : ∀ {ks : List Kd} {as bs : List Value}, Fits ks as → Fits ks bs → (sames as bs = true ↔ as = bs)
  | _, _, _, .nil, .nil => by simp [sames]
  | _, _, _, .cons (k := k) (v := a) h1 h2, .cons (v := b) h3 h4 => by
    simp only [sames, Bool.and_eq_true, List.cons.injEq, sames_eq h2 h4]
    have : (same a b = true ↔ a = b) := by
      cases k <;> cases a <;> simp [Kd.ok] at h1 <;> cases b <;> simp [Kd.ok] at h3 <;> first | simp [same, h1, h3] ; done | simp [same, ba_beq]
    rw [this]

/-- The value of a flat type whose cells are given. -/
def valOf (P : Program) (t : TypeId) (cs : List Value) : Value :=
  match P.underlying t with
  | some (.struct _) | some (.array _ _) => .agg cs.toArray
  | _ => cs.headD undef

section
variable {P : Program} (w : World)

theorem run_part_val {d : Nat} {t : TypeId} {i : TypeInfo} {ks : List Kd} (hi : P.info? t = some i) (hk : kindsOf P d t = some ks) (hl : ks.length = i.size) (xs : Array Value) (pre as post : List Value)
    (hx : xs.toList = pre ++ (as ++ post)) (hf : Fits ks as) : (part t xs pre.length).run P w = .ok (valOf P t as) w := by
  have hal := hf.length
  have hex : xs.extract pre.length (pre.length + i.size) = as.toArray := by
    apply Array.toList_inj.1
    rw [Array.toList_extract, hx, ← hl, ← hal]
    simp
  have hone : ∀ v, as = [v] → xs[pre.length]? = some v := by
    rintro v rfl
    rw [← Array.getElem?_toList, hx]; simp
  have one : ∀ k, ks = [k] → ∃ v, as = [v] := by
    rintro k rfl
    match as, hal with
    | [v], _ => exact ⟨v, rfl⟩
  cases d with
  | zero => simp [kindsOf] at hk
  | succ d =>
    unfold kindsOf at hk
    cases hu : P.underlying t with
    | none => simp [hu] at hk
    | some ty =>
      cases ty <;> simp only [hu] at hk <;> try (simp at hk; done)
      case int k =>
        obtain ⟨v, rfl⟩ := one _ (by simpa using hk.symm)
        simp [part, isAgg, run_underlying hu, valOf, hu, hone v rfl]
      case bool =>
        obtain ⟨v, rfl⟩ := one _ (by simpa using hk.symm)
        simp [part, isAgg, run_underlying hu, valOf, hu, hone v rfl]
      case string =>
        obtain ⟨v, rfl⟩ := one _ (by simpa using hk.symm)
        simp [part, isAgg, run_underlying hu, valOf, hu, hone v rfl]
      case array n e => simp [part, isAgg, run_underlying hu, valOf, hu, sizeOf, typeInfo, hi, hex]
      case struct fs => simp [part, isAgg, run_underlying hu, valOf, hu, sizeOf, typeInfo, hi, hex]

theorem run_equalIn_flat : ∀ (d : Nat) (t : TypeId) (ks : List Kd) (as bs : List Value), kindsOf P d t = some ks → Fits ks as → Fits ks bs → ∀ D, d ≤ D →
    (Op.equalIn D t (valOf P t as) (valOf P t bs)).run P w = .ok (sames as bs) w
  | 0, _, _, _, _, hk, _, _, _, _ => by simp [kindsOf] at hk
  | d + 1, t, ks, as, bs, hk, ha, hb, D, hD => by
    obtain ⟨D, rfl⟩ : ∃ D', D = D' + 1 := ⟨D - 1, by omega⟩
    have hD' : d ≤ D := by omega
    unfold kindsOf at hk
    cases hu : P.underlying t with
    | none => simp [hu] at hk
    | some ty =>
      cases ty <;> simp only [hu] at hk <;> try (simp at hk; done)
      case int k =>
        obtain rfl : [Kd.int k] = ks := by simpa using hk
        cases ha with | cons h1 h2 => cases h2; cases hb with | cons h3 h4 => cases h4; rename_i a b; cases a <;> simp [Kd.ok] at h1; cases b <;> simp [Kd.ok] at h3; simp [valOf, hu, Op.equalIn, run_underlying hu, sames, same, h1, h3]
      case bool =>
        obtain rfl : [Kd.bool] = ks := by simpa using hk
        cases ha with | cons h1 h2 => cases h2; cases hb with | cons h3 h4 => cases h4; rename_i a b; cases a <;> simp [Kd.ok] at h1; cases b <;> simp [Kd.ok] at h3; simp [valOf, hu, Op.equalIn, run_underlying hu, sames, same]
      case string =>
        obtain rfl : [Kd.str] = ks := by simpa using hk
        cases ha with | cons h1 h2 => cases h2; cases hb with | cons h3 h4 => cases h4; rename_i a b; cases a <;> simp [Kd.ok] at h1; cases b <;> simp [Kd.ok] at h3; simp [valOf, hu, Op.equalIn, run_underlying hu, sames, same]
      case array n e =>
        cases hi : P.info? e with
        | none => simp [hi] at hk
        | some i =>
          cases hke : kindsOf P d e with
          | none => simp [hi, hke] at hk
          | some ke =>
            simp only [hi, hke] at hk
            split at hk
            · rename_i hc
              obtain ⟨hc1, hc2⟩ := hc
              obtain rfl : (List.replicate n ke).flatten = ks := by simpa using hk
              simp only [valOf, hu]
              rw [run_equalIn_array w D _ _ hu hi, hc2, List.range_eq_range']
              have key : ∀ (m s : Nat) (xs ys : Array Value) (p q as bs : List Value), p.length = s * i.size → q.length = s * i.size → xs.toList = p ++ as → ys.toList = q ++ bs →
                  Fits (List.replicate m ke).flatten as → Fits (List.replicate m ke).flatten bs →
                  (Op.eqItems D e i.size xs ys (List.range' s m)).run P w = .ok (sames as bs) w := by
                intro m
                induction m with
                | zero =>
                  intro s xs ys p q as bs _ _ _ _ ha hb
                  cases ha; cases hb
                  simp [Op.eqItems, sames]
                | succ m ih =>
                  intro s xs ys p q as bs hp hq hx hy ha hb
                  rw [List.replicate_succ, List.flatten_cons] at ha hb
                  obtain ⟨a1, a2⟩ := ha.split
                  obtain ⟨b1, b2⟩ := hb.split
                  have pa := run_part_val (P := P) w hi hke hc1 xs p _ _ (by rw [hx, List.take_append_drop]) a1
                  have pb := run_part_val (P := P) w hi hke hc1 ys q _ _ (by rw [hy, List.take_append_drop]) b1
                  have pe := run_equalIn_flat d e ke _ _ hke a1 b1 D hD'
                  have ih' := ih (s + 1) xs ys (p ++ as.take ke.length) (q ++ bs.take ke.length) (as.drop ke.length) (bs.drop ke.length)
                    (by rw [List.length_append, hp, a1.length, hc1, Nat.add_mul]; simp) (by rw [List.length_append, hq, b1.length, hc1, Nat.add_mul]; simp)
                    (by rw [List.append_assoc, List.take_append_drop, hx]) (by rw [List.append_assoc, List.take_append_drop, hy]) a2 b2
                  have hs : sames as bs = (sames (as.take ke.length) (bs.take ke.length) && sames (as.drop ke.length) (bs.drop ke.length)) := by
                    conv => lhs; rw [← List.take_append_drop ke.length as, ← List.take_append_drop ke.length bs]
                    rw [sames_append (by rw [a1.length, b1.length])]
                  rw [hp] at pa; rw [hq] at pb
                  rw [List.range'_succ, Op.eqItems, hs]
                  simp only [Sem.run_bind, pa, pb, pe, Result.andThen_ok]
                  cases sames (as.take ke.length) (bs.take ke.length)
                  · simp
                  · simp [ih']
              exact key n 0 _ _ [] [] as bs (by simp) (by simp) rfl rfl ha hb
            · simp at hk
      case struct fs =>
        split at hk
        · simp at hk
        · rename_i hst
          have hfo : P.fieldsOf t = fs := by simp [Program.fieldsOf, hu]
          simp only [valOf, hu]
          rw [run_equalIn_struct w D t _ _ (by rw [hfo]; exact hu) (by simpa using hst), hfo]
          have key : ∀ (fl : List Field) (xs ys : Array Value) (p q as bs : List Value) (ks : List Kd), p.length = q.length → fieldsKinds P (kindsOf P d) fl p.length = some ks → xs.toList = p ++ as → ys.toList = q ++ bs →
              Fits ks as → Fits ks bs → (Op.eqFields D xs ys fl).run P w = .ok (sames as bs) w := by
            intro fl
            induction fl with
            | nil =>
              intro xs ys p q as bs ks _ hk _ _ ha hb
              obtain rfl : [] = ks := by simpa [fieldsKinds] using hk
              cases ha; cases hb
              simp [Op.eqFields, sames]
            | cons f fl ih =>
              intro xs ys p q as bs ks hpq hk hx hy ha hb
              unfold fieldsKinds at hk
              cases hi : P.info? f.type with
              | none => simp [hi] at hk
              | some i =>
                cases hke : kindsOf P d f.type with
                | none => simp [hi, hke] at hk
                | some ke =>
                  simp only [hi, hke] at hk
                  split at hk
                  · rename_i hc
                    obtain ⟨hn, ho, hc1⟩ := hc
                    simp only [Option.map_eq_some_iff] at hk
                    obtain ⟨kr, hkr, rfl⟩ := hk
                    obtain ⟨a1, a2⟩ := ha.split
                    obtain ⟨b1, b2⟩ := hb.split
                    have pa := run_part_val (P := P) w hi hke hc1 xs p _ _ (by rw [hx, List.take_append_drop]) a1
                    have pb := run_part_val (P := P) w hi hke hc1 ys q _ _ (by rw [hy, List.take_append_drop]) b1
                    have pe := run_equalIn_flat d f.type ke _ _ hke a1 b1 D hD'
                    have ih' := ih xs ys (p ++ as.take ke.length) (q ++ bs.take ke.length) (as.drop ke.length) (bs.drop ke.length) kr
                      (by simp [hpq, a1.length, b1.length]) (by rw [List.length_append, a1.length, hc1]; exact hkr)
                      (by rw [List.append_assoc, List.take_append_drop, hx]) (by rw [List.append_assoc, List.take_append_drop, hy]) a2 b2
                    have hs : sames as bs = (sames (as.take ke.length) (bs.take ke.length) && sames (as.drop ke.length) (bs.drop ke.length)) := by
                      conv => lhs; rw [← List.take_append_drop ke.length as, ← List.take_append_drop ke.length bs]
                      rw [sames_append (by rw [a1.length, b1.length])]
                    rw [Op.eqFields, if_pos hn, hs]
                    rw [← hpq] at pb
                    simp only [Sem.run_bind, ho, pa, pb, pe, Result.andThen_ok]
                    cases sames (as.take ke.length) (bs.take ke.length)
                    · simp
                    · simp [ih']
                  · simp at hk
          exact key fs.toList _ _ [] [] as bs ks rfl hk rfl rfl ha hb

/-- '==' and '!=' on two flat aggregates. -/
theorem run_eql_flat {t : TypeId} {ks : List Kd} (d : Nat) (hk : kindsOf P d t = some ks) (hd : d ≤ 10000) (hv : ∀ cs, valOf P t cs = .agg cs.toArray) (as bs : List Value) (ha : Fits ks as) (hb : Fits ks bs) :
    (binOp .eql t (.agg as.toArray) (.agg bs.toArray)).run P w = .ok (.bool (sames as bs)) w := by
  rw [run_eql_struct, ← hv as, ← hv bs, run_equalIn_flat w d t ks as bs hk ha hb 10000 hd]; rfl
theorem run_neq_flat {t : TypeId} {ks : List Kd} (d : Nat) (hk : kindsOf P d t = some ks) (hd : d ≤ 10000) (hv : ∀ cs, valOf P t cs = .agg cs.toArray) (as bs : List Value) (ha : Fits ks as) (hb : Fits ks bs) :
    (binOp .neq t (.agg as.toArray) (.agg bs.toArray)).run P w = .ok (.bool (!sames as bs)) w := by
  rw [run_neq_struct, ← hv as, ← hv bs, run_equalIn_flat w d t ks as bs hk ha hb 10000 hd]; rfl
end
end Go.Proofs.Ytnholkjgdpapbaa
