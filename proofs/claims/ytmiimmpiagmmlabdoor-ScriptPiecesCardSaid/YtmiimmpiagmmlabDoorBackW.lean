/-
  The walk of the law ScriptBack: it returns true for any acts and bytes. Condition: the table has as laid.
-/
import Derived.Test.YtmiimmpiagmmlabDoorCodesW
namespace Go.Proofs.YtmiimmpiagmmlabDoor
open Go.RowKit
set_option linter.unusedVariables false
theorem byte_toNat {x : Int} (h : 0 ≤ x ∧ x < 256) : ((UInt8.ofNat x.toNat).toNat : Int) = x := by
  rw [UInt8.toNat_ofNat']
  omega
theorem dec_bytes : ∀ (l : List A3), l.all A3.ok = true → decL (bytesOf l) = l
  | [], _ => rfl
  | a :: l, h => by
    rw [List.all_cons, Bool.and_eq_true] at h
    obtain ⟨r1, r2, r3⟩ := ok_range (show goodB a.k a.c a.l = true from h.1)
    have e : bytesOf (a :: l) = UInt8.ofNat a.k.toNat :: UInt8.ofNat a.c.toNat :: UInt8.ofNat a.l.toNat :: bytesOf l := rfl
    rw [e, decL, byte_toNat (by omega), byte_toNat (by omega), byte_toNat (by omega), dec_bytes l h.2, if_pos (show goodB a.k a.c a.l = true from h.1)]
theorem dec_facts : ∀ (n : Nat) (l : List UInt8), l.length ≤ n → (decL l).all A3.ok = true ∧ (decL l).length * 3 ≤ l.length := by
  intro n
  induction n using Nat.strongRecOn with
  | ind n ih =>
    intro l hl
    match l, hl with
    | [], _ => simp [decL]
    | [_], _ => simp [decL]
    | [_, _], _ => simp [decL]
    | a :: b :: c :: r, hl =>
      simp only [List.length_cons] at hl
      obtain ⟨h1, h2⟩ := ih (n - 3) (by omega) r (by omega)
      unfold decL
      by_cases hg : goodB a.toNat b.toNat c.toNat = true
      · rw [if_pos hg]
        refine ⟨?_, ?_⟩
        · rw [List.all_cons, h1, Bool.and_true]; exact hg
        · simp only [List.length_cons]; omega
      · rw [if_neg hg]
        exact ⟨h1, by simp only [List.length_cons]; omega⟩
theorem dec_ok (s : ByteArray) : (decL s.data.toList).all A3.ok = true := (dec_facts _ _ (Nat.le_refl _)).1
theorem dec_len (s : ByteArray) : (decL s.data.toList).length * 3 ≤ s.size := by
  have := (dec_facts _ s.data.toList (Nat.le_refl _)).2
  have hz : s.data.toList.length = s.size := by simp
  omega
theorem encS_data {l : List A3} (h : l.all A3.ok = true) : (encS l).data.toList = bytesOf l := by rw [(enc_all h).1]
theorem encS_size {l : List A3} (h : l.all A3.ok = true) : (encS l).size = l.length * 3 := by
  rw [(enc_all h).1]
  show (bytesOf l).toArray.size = _
  simp [bytesOf_length]
set_option maxHeartbeats 2000000 in
theorem back_long (v : Value) (n : Nat) (A : Option Addr) (cap : Nat) (hv : v = .slice A n cap) (s : ByteArray) (hlong : 500 < (n : Int) ∨ 3000 < (s.size : Int)) (w : World) (ht : Tab w) :
    Calls Tryd.prog 5 #[v, .string s] w fun e w' => e = .returned (.bool true) ∧ Below w.heap.size w w' := by
  subst hv
  by_cases h1 : 500 < (n : Int)
  · clear hlong
    go_enter Tryd.func5, Tryd.ntmps5
    go_wp2_with fail
    refine (wakes_any _ ht).mono ?_
    rintro e w1 ⟨rfl, hb⟩
    go_wp2_with fail
    go_ret
    exact ⟨rfl, hb⟩
  · have h2 : 3000 < (s.size : Int) := by omega
    clear hlong
    go_enter Tryd.func5, Tryd.ntmps5
    go_wp2_with fail
    refine (wakes_any _ ht).mono ?_
    rintro e w1 ⟨rfl, hb⟩
    go_wp2_with fail
    go_ret
    exact ⟨rfl, hb⟩
set_option maxHeartbeats 4000000 in
theorem back_short (A : Option Addr) (cap : Nat) (l : List A3) (s : ByteArray) (hn : (l.length : Int) ≤ 500) (hs : (s.size : Int) ≤ 3000) (w : World) (ht : Tab w) (hrd : Ra w A cap l) :
    Calls Tryd.prog 5 #[.slice A l.length cap, .string s] w fun e w' => e = .returned (.bool true) ∧ Below w.heap.size w w' := by
  have hpos := ht.pos
  have hrl := hrd.rd
  have hle : l.length ≤ 1000000 := by omega
  obtain ⟨D, hD⟩ : ∃ D, decL s.data.toList = D := ⟨_, rfl⟩
  have HDD := Lib.hid hD
  have hDo : D.all A3.ok = true := by rw [← hD]; exact dec_ok s
  have hDl : D.length * 3 ≤ s.size := by rw [← hD]; exact dec_len s
  have HDL : Hid (D.length ≤ 1000000) := by show D.length ≤ 1000000; omega
  have HDE := Lib.hid (enc_all hDo).2
  obtain ⟨S, hS⟩ : ∃ S, encS D = S := ⟨_, rfl⟩
  have HDS := Lib.hid hS
  have hSz : S.size ≤ s.size := by rw [← hS, encS_size hDo]; exact hDl
  have hSz' : (S.size : Int) ≤ (s.size : Int) := by omega
  have HDT : Hid (decL S.data.toList = D) := by show decL S.data.toList = D; rw [← hS, encS_data hDo]; exact dec_bytes _ hDo
  clear hrd hD hS hDo hDl
  cases hall : l.all A3.ok
  · have HE := Lib.hid (enc_not hall).2
    clear hall
    go_enter Tryd.func5, Tryd.ntmps5
    go_wp2_with fail
    refine (encode_any _ _ hle _ ht hrl).mono ?_
    rintro e wA ⟨rfl, bA⟩
    rw [HE.out]
    go_wp2_with fail
    refine (decode_any _ _ (by omega) (ht.below bA hpos)).mono ?_
    rintro e w4 ⟨v4, rfl, hown4, hb4⟩
    rw [HDD.out] at hown4
    have b4 := bA.trans (hb4.mono bA.size)
    have hr4 := Rd_of_own hown4
    clear hown4
    go_wp2_with fail
    refine (encode_any _ _ HDL.out _ (ht.below b4 hpos) hr4).mono ?_
    rintro e w5 ⟨rfl, hb5⟩
    rw [HDE.out, HDS.out]
    have b5 := b4.trans (hb5.mono b4.size)
    have hr5 := hr4.below hb5
    clear hr4
    go_wp2_with fail
    refine (decode_any _ _ (by omega) (ht.below b5 hpos)).mono ?_
    rintro e w6 ⟨v6, rfl, hown6, hb6⟩
    rw [HDT.out] at hown6
    have b6 := b5.trans (hb6.mono b5.size)
    have hr6 := Rd_of_own hown6
    have hr56 := hr5.below hb6
    clear hown6 hr5
    go_wp2_with fail
    refine (acts_same _ _ _ _ HDL.out hr6 hr56).mono ?_
    rintro e w7 ⟨rfl, hb7⟩
    have b7 := b6.trans (hb7.mono b6.size)
    go_wp2_with fail
    refine (wakes_any _ (ht.below b7 hpos)).mono ?_
    rintro e w8 ⟨rfl, hb8⟩
    have b8 := b7.trans (hb8.mono b7.size)
    go_wp2_with fail
    go_ret
    exact ⟨rfl, b8⟩
  · have HE := Lib.hid (enc_all hall).2
    obtain ⟨R, hR⟩ : ∃ R, encS l = R := ⟨_, rfl⟩
    have HR := Lib.hid hR
    have hRz : R.size = l.length * 3 := by rw [← hR]; exact encS_size hall
    have HRT : Hid (decL R.data.toList = l) := by show decL R.data.toList = l; rw [← hR, encS_data hall]; exact dec_bytes _ hall
    have hne : ((R.size : Int) != 3 * (l.length : Int)) = false := by rw [bne_eq_false_iff_eq]; omega
    have hRle : R.size ≤ 1000000 := by omega
    clear hall hR hRz
    go_enter Tryd.func5, Tryd.ntmps5
    go_wp2_with fail
    refine (encode_any _ _ hle _ ht hrl).mono ?_
    rintro e w1 ⟨rfl, b1⟩
    rw [HE.out, HR.out]
    go_wp2_with fail
    refine (decode_any _ _ hRle (ht.below b1 hpos)).mono ?_
    rintro e w2 ⟨v2, rfl, hown2, hb2⟩
    rw [HRT.out] at hown2
    have b2 := b1.trans (hb2.mono b1.size)
    have hr2 := Rd_of_own hown2
    clear hown2
    go_wp2_with fail
    refine (acts_same _ _ _ _ hle hr2 (hrl.below b2)).mono ?_
    rintro e wA ⟨rfl, hbA⟩
    have bA := b2.trans (hbA.mono b2.size)
    go_wp2_with fail
    refine (decode_any _ _ (by omega) (ht.below bA hpos)).mono ?_
    rintro e w4 ⟨v4, rfl, hown4, hb4⟩
    rw [HDD.out] at hown4
    have b4 := bA.trans (hb4.mono bA.size)
    have hr4 := Rd_of_own hown4
    clear hown4
    go_wp2_with fail
    refine (encode_any _ _ HDL.out _ (ht.below b4 hpos) hr4).mono ?_
    rintro e w5 ⟨rfl, hb5⟩
    rw [HDE.out, HDS.out]
    have b5 := b4.trans (hb5.mono b4.size)
    have hr5 := hr4.below hb5
    clear hr4
    go_wp2_with fail
    refine (decode_any _ _ (by omega) (ht.below b5 hpos)).mono ?_
    rintro e w6 ⟨v6, rfl, hown6, hb6⟩
    rw [HDT.out] at hown6
    have b6 := b5.trans (hb6.mono b5.size)
    have hr6 := Rd_of_own hown6
    have hr56 := hr5.below hb6
    clear hown6 hr5
    go_wp2_with fail
    refine (acts_same _ _ _ _ HDL.out hr6 hr56).mono ?_
    rintro e w7 ⟨rfl, hb7⟩
    have b7 := b6.trans (hb7.mono b6.size)
    go_wp2_with fail
    refine (wakes_any _ (ht.below b7 hpos)).mono ?_
    rintro e w8 ⟨rfl, hb8⟩
    have b8 := b7.trans (hb8.mono b7.size)
    go_wp2_with fail
    go_ret
    exact ⟨rfl, b8⟩
theorem scriptBack_walk (A : Option Addr) (cap : Nat) (l : List A3) (s : ByteArray) (w : World) (ht : Tab w) (hrd : Ra w A cap l) :
    Calls Tryd.prog 5 #[.slice A l.length cap, .string s] w fun e w' => e = .returned (.bool true) ∧ Below w.heap.size w w' := by
  by_cases h : 500 < (l.length : Int) ∨ 3000 < (s.size : Int)
  · exact back_long _ l.length A cap rfl s h w ht
  · exact back_short A cap l s (by omega) (by omega) w ht hrd
end Go.Proofs.YtmiimmpiagmmlabDoor
