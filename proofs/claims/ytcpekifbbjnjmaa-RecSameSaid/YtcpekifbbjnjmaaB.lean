/- The plain side: a record's bytes, and what reads them. -/
import Derived.Test.YtcpekifbbjnjmaaA
import Derived.Test.YtcpekifbbjnjmaaPRecBackx2
set_option linter.unusedVariables false
namespace Go.Proofs.Ytcpekifbbjnjmaa
open Go.RowKit Go.Proofs.YtcpekifbbjnjmaaW.PrintWords Go.Proofs.YtcpekifbbjnjmaaW.PrintLast Go.Proofs.YtcpekifbbjnjmaaW.PrintMore Go.Proofs.Ytcpekifbbjnjmaa.PRecBack
structure Rc where
  kind : Int
  id : Int
  size : Int
  key : ByteArray
  stripes : List S41
  objects : List S44
  drives : List Int
/-- A number in n bytes, the highest one first. -/
def be (v : Int) : Nat → List Int
  | 0 => []
  | n + 1 => (v / 2 ^ (8 * n)) % 256 :: be v n
theorem be_length (v : Int) : ∀ n, (be v n).length = n
  | 0 => rfl
  | n + 1 => by rw [be, List.length_cons, be_length]
/-- Bytes, each one. -/
def Byt (bs : List Int) : Prop := ∀ x ∈ bs, 0 ≤ x ∧ x < 256
theorem be_byt (v : Int) : ∀ n, Byt (be v n)
  | 0 => fun x hx => by cases hx
  | n + 1 => fun x hx => by
    rw [be] at hx
    rcases List.mem_cons.1 hx with rfl | hx
    · omega
    · exact be_byt v n x hx
theorem bytesOf_byt (s : ByteArray) : Byt (bytesOf s) := fun x hx => by
  unfold bytesOf at hx
  obtain ⟨b, _, rfl⟩ := List.mem_map.1 hx
  have := b.toNat_lt
  omega
theorem Byt.append {a b : List Int} (ha : Byt a) (hb : Byt b) : Byt (a ++ b) := fun x hx => (List.mem_append.1 hx).elim (ha x) (hb x)
theorem Byt.take {a : List Int} (ha : Byt a) (n : Nat) : Byt (a.take n) := fun x hx => ha x (List.mem_of_mem_take hx)
theorem Byt.drop {a : List Int} (ha : Byt a) (n : Nat) : Byt (a.drop n) := fun x hx => ha x (List.mem_of_mem_drop hx)
theorem byt_nil : Byt [] := fun x hx => by cases hx
def val (bs : List Int) : Int := bs.foldl (fun a b => a * 256 + b) 0
theorem put_l0 (v : Int) : ∀ (n : Nat) (l : List Int), n ≤ 8 → l.length + n ≤ 140737488355328 → hash_Put.l0 (n + 1) l v ((n : Int) - 1) = some (l ++ be v n)
  | 0, l, _, _ => by
    simp only [hash_Put.l0]
    rw [if_neg (by omega)]
    simp [be]
  | n + 1, l, h, hl => by
    have e1 : ((n + 1 : Nat) : Int) - 1 = n := by omega
    have e2 : wrap64 (8 * (n : Int)) = 8 * n := by unfold wrap64; omega
    have e3 : wrap64 ((n : Int) - 1) = (n : Int) - 1 := by unfold wrap64; omega
    rw [e1, hash_Put.l0]
    rw [e2, e3, if_pos (by omega), if_pos (by omega), if_pos (by omega)]
    have e4 : shr .u64 v (8 * (n : Int)) = v / 2 ^ (8 * n) := by
      unfold shr
      have : min (8 * (n : Int)).toNat IntKind.u64.bits = 8 * n := by
        have h1 : (8 * (n : Int)).toNat = 8 * n := by omega
        have h2 : IntKind.u64.bits = 64 := rfl
        rw [h1, h2]
        omega
      rw [this]
    have ih := put_l0 v n (l ++ [(v / 2 ^ (8 * n)) % 256]) (by omega) (by simp; omega)
    rw [e4, ih, be]
    simp
theorem put_f (v : Int) (n : Nat) (l : List Int) (h : n ≤ 8) (hl : l.length + n ≤ 140737488355328) : hash_Put.f (n + 1) l v n = some (l ++ be v n) := by
  unfold hash_Put.f
  rw [show wrap64 ((n : Int) - 1) = (n : Int) - 1 by unfold wrap64; omega]
  exact put_l0 v n l h hl
theorem num_f (v : Int) (h0 : 0 ≤ v) (h1 : v < 18446744073709551616) (n : Nat) (hn : n = 1 ∨ n = 2 ∨ n = 4) : flittingref01_Num.f 5 v n = some (be v n) := by
  have w1 : ∀ x : Int, 0 ≤ x → x < 18446744073709551616 → IntKind.u64.wrap (Int.tdiv x 256) = x / 256 := fun x hx hx2 => by
    rw [Int.tdiv_eq_ediv_of_nonneg hx]
    simp [IntKind.wrap, IntKind.bits, IntKind.signed]
    omega
  have w2 : ∀ x : Int, 0 ≤ x → x ≤ 10 → wrap64 (x - 1) = x - 1 := fun x _ _ => by unfold wrap64; omega
  rcases hn with rfl | rfl | rfl
  · simp [flittingref01_Num.f, flittingref01_Num.l0, wrap64, be]
  · have a1 := w1 v h0 h1
    simp [flittingref01_Num.f, flittingref01_Num.l0, wrap64, be, a1]
  · have a1 := w1 v h0 h1
    have a2 := w1 (v / 256) (by omega) (by omega)
    have a3 := w1 (v / 256 / 256) (by omega) (by omega)
    simp [flittingref01_Num.f, flittingref01_Num.l0, wrap64, be, a1, a2, a3, List.replicate]
    omega
theorem fold_lt : ∀ (bs : List Int) (a : Int) (n : Nat), Byt bs → 0 ≤ a → a < 2 ^ (8 * n) → 0 ≤ bs.foldl (fun a b => a * 256 + b) a ∧ bs.foldl (fun a b => a * 256 + b) a < 2 ^ (8 * (n + bs.length))
  | [], a, n, _, h0, h1 => ⟨h0, h1⟩
  | b :: bs, a, n, hb, h0, h1 => by
    obtain ⟨hb0, hb1⟩ := hb b (by simp)
    have e : (2 : Int) ^ (8 * (n + 1)) = 2 ^ (8 * n) * 256 := by
      rw [show 8 * (n + 1) = 8 * n + 8 by omega, Int.pow_add]
      rfl
    obtain ⟨h2, h3⟩ := fold_lt bs (a * 256 + b) (n + 1) (fun x hx => hb x (by simp [hx])) (by omega) (by rw [e]; omega)
    refine ⟨h2, ?_⟩
    rw [List.foldl_cons, List.length_cons, show n + (bs.length + 1) = n + 1 + bs.length by omega]
    exact h3
theorem val_lt (bs : List Int) (hb : Byt bs) : 0 ≤ val bs ∧ val bs < 2 ^ (8 * bs.length) := by
  have := fold_lt bs 0 0 hb (by omega) (by simp)
  simpa [val] using this
theorem get_l0 (xs : List Int) (hb : Byt xs) (hl : xs.length ≤ 7) : ∀ (d i : Nat) (a : Int), i + d = xs.length → 0 ≤ a → a < 2 ^ (8 * i) → hash_Get.l0 (d + 1) a xs xs.length i = some ((xs.drop i).foldl (fun a b => a * 256 + b) a)
  | 0, i, a, hi, h0, h1 => by
    simp only [hash_Get.l0]
    rw [if_neg (by omega), List.drop_of_length_le (by omega)]
    rfl
  | d + 1, i, a, hi, h0, h1 => by
    have hlt : i < xs.length := by omega
    rw [hash_Get.l0]
    rw [if_pos (by omega), if_pos (by omega), if_pos (by omega)]
    have e1 : rd xs (i : Int) = xs[i] := by simp [rd, hlt]
    obtain ⟨b0, b1⟩ := hb xs[i] (List.getElem_mem hlt)
    have p : (2 : Int) ^ (8 * (i + 1)) = 2 ^ (8 * i) * 256 := by
      rw [show 8 * (i + 1) = 8 * i + 8 by omega, Int.pow_add]
      rfl
    have q : (2 : Int) ^ (8 * i) ≤ 2 ^ 48 := by have := Nat.pow_le_pow_right (n := 2) (by omega) (show 8 * i ≤ 48 by omega); exact_mod_cast this
    have e2 : IntKind.u64.wrap (a * 256) = a * 256 := by
      simp [IntKind.wrap, IntKind.bits, IntKind.signed]
      omega
    have e3 : IntKind.u64.wrap xs[i] = xs[i] := by
      simp [IntKind.wrap, IntKind.bits, IntKind.signed]
      omega
    have e4 : Go.bits .or .u64 (a * 256) xs[i] = a * 256 + xs[i] := bits_join .u64 64 (by decide) (fun n h0 h1 => by simp [IntKind.wrap, IntKind.bits, IntKind.signed]; omega) 8 _ _ (by omega) (by omega) (by omega) b0 (by omega) (by omega)
    have e5 : wrap64 ((i : Int) + 1) = ((i + 1 : Nat) : Int) := by unfold wrap64; omega
    rw [e1, e2, e3, e4, e5, get_l0 xs hb hl d (i + 1) _ (by omega) (by omega) (by rw [p]; omega)]
    rw [List.drop_eq_getElem_cons hlt, List.foldl_cons]
theorem get_f (xs : List Int) (hb : Byt xs) (hl : xs.length ≤ 7) : hash_Get.f (xs.length + 1) xs = some (val xs) := by
  have := get_l0 xs hb hl xs.length 0 0 (by omega) (by omega) (by simp)
  simpa [hash_Get.f, val] using this
theorem val_be (v : Int) (h0 : 0 ≤ v) (n : Nat) (hn : n = 1 ∨ n = 2 ∨ n = 4) (h1 : v < 2 ^ (8 * n)) : val (be v n) = v := by
  rcases hn with rfl | rfl | rfl
  · simp [val, be] at h1 ⊢
    omega
  · simp [val, be] at h1 ⊢
    omega
  · simp [val, be] at h1 ⊢
    omega
/-! the bytes that are written -/
inductive Tok where
  | num (v : Int) (n : Nat) (most : Int)
  | raw (l : List Int)
  | chk (b : Bool)
def u64 (v : Int) : Int := IntKind.u64.wrap v
theorem u64_of (v : Int) (h0 : 0 ≤ v) (h1 : v < 18446744073709551616) : u64 v = v := by
  simp [u64, IntKind.wrap, IntKind.bits, IntKind.signed]
  omega
theorem u64_lt (v : Int) : 0 ≤ u64 v ∧ u64 v < 18446744073709551616 := by
  simp [u64, IntKind.wrap, IntKind.bits, IntKind.signed]
  omega
def Tok.b : Tok → List Int
  | .num v n _ => be (u64 v) n
  | .raw l => l
  | .chk _ => []
def Tok.bad : Tok → Bool
  | .num v _ most => decide (v < 0) || decide (most < v)
  | .raw _ => false
  | .chk b => b
def tb (ts : List Tok) : List Int := ts.flatMap Tok.b
def tbad (ts : List Tok) : Bool := ts.any Tok.bad
theorem tb_append (a b : List Tok) : tb (a ++ b) = tb a ++ tb b := List.flatMap_append
theorem tb_cons (a : Tok) (b : List Tok) : tb (a :: b) = a.b ++ tb b := rfl
theorem tb_nil : tb [] = [] := rfl
theorem tbad_append (a b : List Tok) : tbad (a ++ b) = (tbad a || tbad b) := List.any_append
theorem tbad_cons (a : Tok) (b : List Tok) : tbad (a :: b) = (a.bad || tbad b) := rfl
theorem tbad_nil : tbad [] = false := rfl
def word (v : Int) : Tok := .num v 4 1073741824
def tInts (l : List Int) : List Tok := .num l.length 1 255 :: l.map word
def tKey (s : ByteArray) : List Tok := [.num s.size 1 16, .raw (bytesOf s)]
def tStripe (s : S41) : List Tok := word s.f0 :: word s.f1 :: tInts s.f2
def tStripes (l : List S41) : List Tok := .num l.length 1 255 :: l.flatMap tStripe
def tObject (o : S44) : List Tok := tKey o.f0 ++ (word o.f1 :: word o.f2 :: tStripes o.f3)
def tObjects (l : List S44) : List Tok := .num l.length 2 65535 :: l.flatMap tObject
def tRec (r : Rc) : List Tok := .num r.kind 1 5 :: .chk (decide (r.kind < 1)) :: word r.id :: word r.size :: (tKey r.key ++ (tStripes r.stripes ++ (tObjects r.objects ++ tInts r.drives)))
theorem tok_byt : ∀ t : Tok, (∀ l, t = .raw l → Byt l) → Byt t.b
  | .num v n m, _ => be_byt _ _
  | .raw l, h => h l rfl
  | .chk b, _ => byt_nil
theorem tb_byt (ts : List Tok) (h : ∀ t ∈ ts, Byt t.b) : Byt (tb ts) := fun x hx => by
  obtain ⟨t, ht, hx⟩ := List.mem_flatMap.1 hx
  exact h t ht x hx
theorem byt_num (v : Int) (n : Nat) (m : Int) : Byt (Tok.b (.num v n m)) := be_byt _ _
theorem byt_ints (l : List Int) : ∀ t ∈ tInts l, Byt t.b := fun t ht => by
  unfold tInts at ht
  rcases List.mem_cons.1 ht with rfl | ht
  · exact byt_num _ _ _
  · obtain ⟨v, _, rfl⟩ := List.mem_map.1 ht
    exact byt_num _ _ _
theorem byt_key (s : ByteArray) : ∀ t ∈ tKey s, Byt t.b := fun t ht => by
  unfold tKey at ht
  simp at ht
  rcases ht with rfl | rfl
  · exact byt_num _ _ _
  · exact bytesOf_byt s
theorem byt_stripe (s : S41) : ∀ t ∈ tStripe s, Byt t.b := fun t ht => by
  unfold tStripe at ht
  rcases List.mem_cons.1 ht with rfl | ht
  · exact byt_num _ _ _
  · rcases List.mem_cons.1 ht with rfl | ht
    · exact byt_num _ _ _
    · exact byt_ints _ t ht
theorem byt_stripes (l : List S41) : ∀ t ∈ tStripes l, Byt t.b := fun t ht => by
  unfold tStripes at ht
  rcases List.mem_cons.1 ht with rfl | ht
  · exact byt_num _ _ _
  · obtain ⟨s, _, ht⟩ := List.mem_flatMap.1 ht
    exact byt_stripe s t ht
theorem byt_object (o : S44) : ∀ t ∈ tObject o, Byt t.b := fun t ht => by
  unfold tObject at ht
  rcases List.mem_append.1 ht with ht | ht
  · exact byt_key _ t ht
  · rcases List.mem_cons.1 ht with rfl | ht
    · exact byt_num _ _ _
    · rcases List.mem_cons.1 ht with rfl | ht
      · exact byt_num _ _ _
      · exact byt_stripes _ t ht
theorem byt_objects (l : List S44) : ∀ t ∈ tObjects l, Byt t.b := fun t ht => by
  unfold tObjects at ht
  rcases List.mem_cons.1 ht with rfl | ht
  · exact byt_num _ _ _
  · obtain ⟨s, _, ht⟩ := List.mem_flatMap.1 ht
    exact byt_object s t ht
theorem byt_rec (r : Rc) : Byt (tb (tRec r)) := tb_byt _ fun t ht => by
  unfold tRec at ht
  simp only [List.mem_cons, List.mem_append] at ht
  rcases ht with rfl | rfl | rfl | rfl | ht | ht | ht | ht
  · exact byt_num _ _ _
  · exact byt_nil
  · exact byt_num _ _ _
  · exact byt_num _ _ _
  · exact byt_key _ t ht
  · exact byt_stripes _ t ht
  · exact byt_objects _ t ht
  · exact byt_ints _ t ht
/-! what is read -/
abbrev St := List Int × Bool
def takeP (s : St) (n : Int) : St × List Int := if s.2 = true ∨ n > s.1.length then ((s.1, true), []) else ((s.1.drop n.toNat, s.2), s.1.take n.toNat)
def numP (s : St) (n : Int) : St × Int := ((takeP s n).1, val (takeP s n).2)
def rowP {α : Type} (one : St → St × α) : Nat → St → St × List α
  | 0, s => (s, [])
  | n + 1, s => if s.2 = true then (s, []) else ((rowP one n (one s).1).1, (one s).2 :: (rowP one n (one s).1).2)
def rowsP {α : Type} (one : St → St × α) (size : Int) (s : St) : St × List α := rowP one (numP s size).2.toNat (numP s size).1
def wordP (s : St) : St × Int := numP s 4
def keyP (s : St) : St × ByteArray := ((takeP (numP s 1).1 (numP s 1).2).1, strOfNums (takeP (numP s 1).1 (numP s 1).2).2)
def stripeP (s : St) : St × S41 := ((rowsP wordP 1 (wordP (wordP s).1).1).1, ⟨(wordP s).2, (wordP (wordP s).1).2, (rowsP wordP 1 (wordP (wordP s).1).1).2⟩)
def objectP (s : St) : St × S44 :=
  ((rowsP stripeP 1 (wordP (wordP (keyP s).1).1).1).1, ⟨(keyP s).2, (wordP (keyP s).1).2, (wordP (wordP (keyP s).1).1).2, (rowsP stripeP 1 (wordP (wordP (keyP s).1).1).1).2⟩)
def s3P (s : St) : St := (wordP (wordP (numP s 1).1).1).1
def s4P (s : St) : St := (keyP (s3P s)).1
def s5P (s : St) : St := (rowsP stripeP 1 (s4P s)).1
def s6P (s : St) : St := (rowsP objectP 2 (s5P s)).1
def recP (s : St) : St × Rc :=
  ((rowsP wordP 1 (s6P s)).1, ⟨(numP s 1).2, (wordP (numP s 1).1).2, (wordP (wordP (numP s 1).1).1).2, (keyP (s3P s)).2, (rowsP stripeP 1 (s4P s)).2, (rowsP objectP 2 (s5P s)).2, (rowsP wordP 1 (s6P s)).2⟩)
def OkRec (r : Rc) : Prop := tbad (tRec r) = false ∧ (tb (tRec r)).length ≤ 8192
/-- Which record bytes are. -/
def Dec (bs : List Int) (r : Rc) : Prop := (recP (bs, false)) = ((recP (bs, false)).1, r) ∧ (recP (bs, false)).1.2 = false ∧ OkRec r ∧ tb (tRec r) = bs
/-! a record's bytes are read as the record -/
theorem take_app (a b : List Int) (n : Int) (hn : n = a.length) : takeP (a ++ b, false) n = ((b, false), a) := by
  subst hn
  unfold takeP
  rw [if_neg (by simp; omega)]
  simp
theorem num_app (v : Int) (n : Nat) (most : Int) (b : List Int) (hn : n = 1 ∨ n = 2 ∨ n = 4) (hm : most < 2 ^ (8 * n)) (hb : Tok.bad (.num v n most) = false) (z : Int) (hz : z = n) : numP (Tok.b (.num v n most) ++ b, false) z = ((b, false), v) := by
  subst hz
  simp [Tok.bad] at hb
  have h2 : v < 18446744073709551616 := by
    rcases hn with rfl | rfl | rfl <;> (simp at hm; omega)
  show numP (be (u64 v) n ++ b, false) n = _
  rw [u64_of v hb.1 h2]
  unfold numP
  rw [take_app _ _ _ (by rw [be_length])]
  simp only
  rw [val_be v hb.1 n hn (by omega)]
theorem word_app (v : Int) (b : List Int) (h : (word v).bad = false) : wordP ((word v).b ++ b, false) = ((b, false), v) := num_app v 4 _ b (by simp) (by decide) h 4 rfl
theorem row_app {α : Type} (one : St → St × α) (enc : α → List Tok) : ∀ (xs : List α) (b : List Int), (∀ x ∈ xs, ∀ b, one (tb (enc x) ++ b, false) = ((b, false), x)) → rowP one xs.length (tb (xs.flatMap enc) ++ b, false) = ((b, false), xs)
  | [], b, h => by simp [rowP, tb]
  | x :: xs, b, h => by
    rw [List.flatMap_cons, tb_append, List.append_assoc, List.length_cons, rowP, if_neg (by simp), h x (by simp)]
    simp only
    rw [row_app one enc xs b (fun y hy => h y (by simp [hy]))]
theorem rows_app {α : Type} (one : St → St × α) (enc : α → List Tok) (xs : List α) (b : List Int) (n : Nat) (most : Int) (hn : n = 1 ∨ n = 2 ∨ n = 4) (hm : most < 2 ^ (8 * n)) (z : Int) (hz : z = n) (hb : tbad (.num xs.length n most :: xs.flatMap enc) = false)
    (h : ∀ x ∈ xs, tbad (enc x) = false → ∀ b, one (tb (enc x) ++ b, false) = ((b, false), x)) : rowsP one z (tb (.num xs.length n most :: xs.flatMap enc) ++ b, false) = ((b, false), xs) := by
  rw [tbad_cons, Bool.or_eq_false_iff] at hb
  have h2 : ∀ x ∈ xs, tbad (enc x) = false := fun x hx => by
    have h3 := hb.2
    unfold tbad at h3 ⊢
    rw [List.any_eq_false] at h3 ⊢
    intro t ht
    exact h3 t (List.mem_flatMap.2 ⟨x, hx, ht⟩)
  unfold rowsP
  rw [tb_cons, List.append_assoc, num_app _ n most _ hn hm hb.1 z hz]
  simp only [Int.toNat_natCast]
  exact row_app one enc xs b (fun x hx => h x hx (h2 x hx))
theorem ints_flat (l : List Int) : l.map word = l.flatMap (fun v => [word v]) := by
  induction l with
  | nil => rfl
  | cons x l ih => rw [List.map_cons, List.flatMap_cons, ih]; rfl
theorem ints_app (l : List Int) (b : List Int) (h : tbad (tInts l) = false) : rowsP wordP 1 (tb (tInts l) ++ b, false) = ((b, false), l) := by
  unfold tInts at h ⊢
  rw [ints_flat] at h ⊢
  refine rows_app wordP (fun v => [word v]) l b 1 255 (by simp) (by decide) 1 rfl h ?_
  intro x _ hx b
  rw [tbad_cons, Bool.or_eq_false_iff] at hx
  rw [tb_cons, tb_nil, List.append_nil]
  exact word_app x b hx.1
theorem str_bytes (s : ByteArray) : strOfNums (bytesOf s) = s := by
  unfold strOfNums bytesOf
  cases s with
  | mk a =>
    simp only [List.map_map]
    rw [show ((fun n : Int => UInt8.ofNat n.toNat) ∘ fun b : UInt8 => (b.toNat : Int)) = id from funext fun b => by simp]
    simp
theorem key_app (s : ByteArray) (b : List Int) (h : tbad (tKey s) = false) : keyP (tb (tKey s) ++ b, false) = ((b, false), s) := by
  unfold tKey at h ⊢
  rw [tbad_cons, Bool.or_eq_false_iff] at h
  rw [tb_cons, tb_cons, tb_nil, List.append_nil, List.append_assoc]
  unfold keyP
  rw [num_app _ 1 16 _ (by simp) (by decide) h.1 1 rfl]
  simp only
  rw [show Tok.b (.raw (bytesOf s)) = bytesOf s from rfl, take_app _ _ _ (by rw [bytesOf_length])]
  simp only
  rw [str_bytes]
theorem stripe_app (s : S41) (b : List Int) (h : tbad (tStripe s) = false) : stripeP (tb (tStripe s) ++ b, false) = ((b, false), s) := by
  unfold tStripe at h ⊢
  rw [tbad_cons, tbad_cons, Bool.or_eq_false_iff, Bool.or_eq_false_iff] at h
  rw [tb_cons, tb_cons, List.append_assoc, List.append_assoc]
  unfold stripeP
  simp only [word_app _ _ h.1, word_app _ _ h.2.1, ints_app _ _ h.2.2]
theorem stripes_app (l : List S41) (b : List Int) (h : tbad (tStripes l) = false) : rowsP stripeP 1 (tb (tStripes l) ++ b, false) = ((b, false), l) := by
  unfold tStripes at h ⊢
  exact rows_app stripeP tStripe l b 1 255 (by simp) (by decide) 1 rfl h (fun x _ hx b => stripe_app x b hx)
theorem object_app (o : S44) (b : List Int) (h : tbad (tObject o) = false) : objectP (tb (tObject o) ++ b, false) = ((b, false), o) := by
  unfold tObject at h ⊢
  rw [tbad_append, tbad_cons, tbad_cons, Bool.or_eq_false_iff, Bool.or_eq_false_iff, Bool.or_eq_false_iff] at h
  rw [tb_append, tb_cons, tb_cons, List.append_assoc, List.append_assoc, List.append_assoc]
  unfold objectP
  simp only [key_app _ _ h.1, word_app _ _ h.2.1, word_app _ _ h.2.2.1, stripes_app _ _ h.2.2.2]
theorem objects_app (l : List S44) (b : List Int) (h : tbad (tObjects l) = false) : rowsP objectP 2 (tb (tObjects l) ++ b, false) = ((b, false), l) := by
  unfold tObjects at h ⊢
  exact rows_app objectP tObject l b 2 65535 (by simp) (by decide) 2 rfl h (fun x _ hx b => object_app x b hx)
theorem rec_app (r : Rc) (b : List Int) (h : tbad (tRec r) = false) : recP (tb (tRec r) ++ b, false) = ((b, false), r) := by
  unfold tRec at h ⊢
  simp only [tbad_cons, tbad_append, Bool.or_eq_false_iff] at h
  obtain ⟨h1, _, h2, h3, h4, h5, h6, h7⟩ := h
  have e : tb (.num r.kind 1 5 :: .chk (decide (r.kind < 1)) :: word r.id :: word r.size :: (tKey r.key ++ (tStripes r.stripes ++ (tObjects r.objects ++ tInts r.drives)))) ++ b
      = Tok.b (.num r.kind 1 5) ++ ((word r.id).b ++ ((word r.size).b ++ (tb (tKey r.key) ++ (tb (tStripes r.stripes) ++ (tb (tObjects r.objects) ++ (tb (tInts r.drives) ++ b)))))) := by
    simp only [tb_cons, tb_append, List.append_assoc]
    rfl
  rw [e]
  have a1 := num_app r.kind 1 5 ((word r.id).b ++ ((word r.size).b ++ (tb (tKey r.key) ++ (tb (tStripes r.stripes) ++ (tb (tObjects r.objects) ++ (tb (tInts r.drives) ++ b)))))) (by simp) (by decide) h1 1 rfl
  unfold recP s6P s5P s4P s3P
  simp only [a1, word_app _ _ h2, word_app _ _ h3, key_app _ _ h4, stripes_app _ _ h5, objects_app _ _ h6, ints_app _ _ h7]
theorem dec_enc (r : Rc) (h : OkRec r) : Dec (tb (tRec r)) r := by
  have a := rec_app r [] h.1
  rw [List.append_nil] at a
  unfold Dec
  rw [a]
  exact ⟨rfl, rfl, h, rfl⟩
theorem dec_more (r : Rc) (h : OkRec r) (b : List Int) (hb : b ≠ []) (r2 : Rc) : ¬ Dec (tb (tRec r) ++ b) r2 := fun hd => by
  obtain ⟨_, _, hok, he⟩ := hd
  have a := rec_app r b h.1
  have a2 := rec_app r2 [] hok.1
  rw [List.append_nil, he, a] at a2
  injection a2 with a3 _
  injection a3 with a4 _
  exact hb a4
theorem dec_less (r : Rc) (h : OkRec r) (n : Nat) (hn : n < (tb (tRec r)).length) (r2 : Rc) : ¬ Dec ((tb (tRec r)).take n) r2 := fun hd => by
  obtain ⟨_, _, hok, he⟩ := hd
  have a := rec_app r [] h.1
  have a2 := rec_app r2 ((tb (tRec r)).drop n) hok.1
  rw [he, List.take_append_drop] at a2
  rw [List.append_nil, a2] at a
  injection a with a3 _
  injection a3 with a4 _
  have := congrArg List.length a4
  rw [List.length_drop, List.length_nil] at this
  omega
end Go.Proofs.Ytcpekifbbjnjmaa
