/- Layer 28: Expand, of the program. -/
import Derived.Test.YtfnneneaalaagaaSqz4
namespace Go.Proofs.Ytfnneneaalaagaa
open Go.RowKit
set_option linter.unusedSimpArgs false
set_option linter.unusedVariables false

def backL (d : Nat) : Nat → List UInt8 → List UInt8
  | 0, out => out
  | n + 1, out => backL d n (out ++ [out.getD (out.length - d) 0])
theorem backL_len (d : Nat) : ∀ n out, (backL d n out).length = out.length + n
  | 0, out => rfl
  | n + 1, out => by rw [backL, backL_len d n, List.length_append, List.length_singleton]; omega
/-- A sign taken off: why not, what is laid, what is left. -/
def sgE (out s : List UInt8) : Nat :=
  if (s.getD 0 0).toNat < 128 then (if s.length < (s.getD 0 0).toNat + 2 then 2 else 0)
  else if s.length < 2 then 2 else if (s.getD 1 0).toNat = 0 ∨ out.length < (s.getD 1 0).toNat then 3 else 0
def sgO (out s : List UInt8) : List UInt8 :=
  if (s.getD 0 0).toNat < 128 then out ++ (s.drop 1).take ((s.getD 0 0).toNat + 1) else backL (s.getD 1 0).toNat ((s.getD 0 0).toNat - 124) out
def sgR (s : List UInt8) : List UInt8 := if (s.getD 0 0).toNat < 128 then s.drop ((s.getD 0 0).toNat + 2) else s.drop 2
theorem sgR_lt (s : List UInt8) (h : 0 < s.length) : (sgR s).length < s.length := by
  unfold sgR; split <;> rw [List.length_drop] <;> omega
/-- The rest: why not, and the bytes. -/
def exG (n : Nat) (s out : List UInt8) : Nat × List UInt8 :=
  if h : 0 < s.length then
    if sgE out s ≠ 0 then (sgE out s, [])
    else if n < (sgO out s).length then (3, [])
    else exG n (sgR s) (sgO out s)
  else if out.length < n then (2, []) else (0, out)
termination_by s.length
decreasing_by exact sgR_lt s h
def exP (s : List UInt8) : Nat × List UInt8 := if tkE s ≠ 0 then (tkE s, []) else if 5000 < tkN s then (4, []) else exG (tkN s) (tkR s) []
theorem exG_bad (n : Nat) (s out : List UInt8) (h : 0 < s.length) (h1 : sgE out s ≠ 0) : exG n s out = (sgE out s, []) := by rw [exG, dif_pos h, if_pos h1]
theorem exG_long (n : Nat) (s out : List UInt8) (h : 0 < s.length) (h1 : sgE out s = 0) (h2 : n < (sgO out s).length) : exG n s out = (3, []) := by rw [exG, dif_pos h, if_neg (by omega), if_pos h2]
theorem exG_next (n : Nat) (s out : List UInt8) (h : 0 < s.length) (h1 : sgE out s = 0) (h2 : ¬ n < (sgO out s).length) : exG n s out = exG n (sgR s) (sgO out s) := by rw [exG, dif_pos h, if_neg (by omega), if_neg h2]
theorem exG_end (n : Nat) (out : List UInt8) : exG n [] out = if out.length < n then (2, []) else (0, out) := by rw [exG, dif_neg (by simp)]

section
variable {F : Nat → Prop} {w0 w w' : World} {L : List Own} {α : Type}
/-- A row that lies apart from one that grows. -/
theorem SH.kr2 (h : SH F w0 w L) (i j : Nat) {T : Ty α} {v u : Value} {xs : List α} {ys : List UInt8} (hi : L[i]? = some (.row T v xs)) (hj : L[j]? = some (.row B8 u ys)) (hne : i ≠ j) : KR (rowF v) w u ys := fun w' hc => by
  obtain ⟨hil, hie⟩ := List.getElem?_eq_some_iff.1 hi
  obtain ⟨hjl, hje⟩ := List.getElem?_eq_some_iff.1 hj
  have hap := List.pairwise_iff_getElem.1 h.apart
  have ho : (Own.row B8 u ys).holds w := h.at_ j hj
  refine OR.reads (show OR B8 w' 0 u ys from (Own.row B8 u ys).keep w w' ho hc.size fun b hb => hc.block b ((Own.row B8 u ys).lt w b ho hb) fun e => ?_)
  rcases Nat.lt_or_ge i j with h3 | h3
  · exact hap i j hil hjl h3 b (by rw [hie]; exact e) (by rw [hje]; exact hb)
  · exact hap j i hjl hil (by omega) b (by rw [hje]; exact hb) (by rw [hie]; exact e)
/-- What reads while a row grows reads while the grown row grows. -/
theorem SH.kr3 {o : Own} (h : SH F w w' [o]) {u : Value} {ys : List UInt8} (hk : KR F w u ys) : KR o.foot w' u ys := fun w2 hc => hk w2
  ⟨hc.os.trans h.chg.os, hc.tape.trans h.chg.tape, hc.output.trans h.chg.output, Nat.le_trans h.chg.size hc.size, fun k hk2 hn => (hc.block k (Nat.lt_of_lt_of_le hk2 h.chg.size) fun e => by
    rcases h.foot o (List.mem_singleton.mpr rfl) k e with h1 | h1
    · exact hn h1
    · omega).trans (h.chg.block k hk2 hn)⟩
end

set_option maxHeartbeats 1600000 in
set_option maxRecDepth 100000 in
theorem back_any (vo : Value) (os : List UInt8) (n d : Nat) (w : World) (ho : OB w 0 vo os) (hl : os.length ≤ 1000000) (hn : n ≤ 1000) (h0 : 0 < d) (hd : d ≤ os.length) :
    Calls Try.prog 71 #[vo, .int .i64 (n : Int), .int .i64 (d : Int)] w fun e w' => ∃ v', e = .returned v' ∧ SH (rowF vo) w w' [.row B8 v' (backL d n os)] := by
  have H := SH.row B8 ho
  generalize rowF vo = F at H
  clear ho
  go_enter Try.func71, Try.ntmps71
  go_wp2
  go_loopw [0, 8] (fun v0 v8 wr => ∃ (k : Nat) (cur : List UInt8), v8 = .int .i64 (k : Int) ∧ k ≤ n ∧ Hid (backL d (n - k) cur = backL d n os) ∧ cur.length = os.length + k ∧ SH F w wr [.row B8 v0 cur]) (fun _ v _ => n - (intOf v).toNat)
  case atStart => exact ⟨0, os, rfl, by omega, by rfl, by omega, H⟩
  case round =>
    obtain ⟨k, cur, rfl, hk, HD, hcl, HS⟩ := hrel
    clear H
    by_cases hkn : k < n
    · have hki : (k : Int) < (n : Int) := by omega
      have hr := HS.rr 0 rfl
      obtain ⟨A, c, rfl, hc⟩ := hr.len
      obtain ⟨ad, rfl, hcell⟩ := RB.byte hr (by omega)
      obtain ⟨j, hj⟩ : ∃ j, j = cur.length - d := ⟨_, rfl⟩
      have hcj := hcell j (by omega)
      have hd2 := HD.out
      rw [show n - k = (n - (k + 1)) + 1 by omega, backL, ← hj] at hd2
      have hji : IntKind.i64.wrap ((cur.length : Int) - (d : Int)) = (j : Int) := by rw [IntKind.wrap_i64]; omega
      have hji2 : (cur.length : Int) - (d : Int) = (j : Int) := by omega
      have hjl : (j : Int) < (cur.length : Int) := by omega
      have hjb : (j : Int) ≤ 1001000 := by omega
      have hcb : (cur.length : Int) ≤ 1001000 := by omega
      generalize cur.getD j 0 = x at hcj hd2
      have HD2 := Lib.hid hd2
      have HCL := Lib.hid hcl
      clear hd2 hcell hr hj hcl
      go_wp2_with (first
        | (at_builtin; refine wAppLit sB [x] #[.int .u8 (x.toNat : Int)] rfl (by simp) 1 rfl HS 0 rfl (by have := HCL.out; show (cur.length + 1) * 1 ≤ _; omega) _ _ rfl rfl rfl rfl ?_; clear HS; intro v5 w5 HS))
      go_roundw
      case rel => exact ⟨k + 1, _, by go_num, by omega, HD2, by have := HCL.out; rw [List.length_append, List.length_singleton]; omega, HS⟩
      case measure => simp [intOf] <;> omega
    · obtain rfl : k = n := by omega
      have hd2 := HD.out
      rw [Nat.sub_self, backL] at hd2
      rw [hd2] at HS
      clear hd2 HD
      go_wp2
      go_ret
      exact ⟨_, rfl, HS⟩

def SignPost (vo : Value) (os s : List UInt8) (w : World) (e : Ending) (w' : World) : Prop := ∃ v1 v2, e = .returned (.tuple #[v1, v2, .int .i64 (sgE os s : Int)]) ∧ Chg (rowF vo) w w' ∧ (sgE os s = 0 → SH (rowF vo) w w' [.row B8 v1 (sgO os s)] ∧ KR (rowF v1) w' v2 (sgR s))
theorem RB.byte0 {w : World} {A : Option Addr} {n c : Nat} {xs : List UInt8} (h : RB w (.slice A n c) xs) (hp : 0 < xs.length) : ∃ ad, A = some ad ∧ w.cell? ad = some (.int .u8 ((xs.getD 0 0).toNat : Int)) ∧ (1 < xs.length → w.cell? ⟨ad.block, ad.off + 1, none⟩ = some (.int .u8 ((xs.getD 1 0).toNat : Int))) := by
  obtain ⟨ad, rfl, hc⟩ := h.byte hp
  refine ⟨ad, rfl, ?_, fun h1 => hc 1 h1⟩
  have := hc 0 hp
  rw [show ad.add 0 = ad from by simp [Addr.add]] at this
  exact this
set_option maxHeartbeats 1600000 in
set_option maxRecDepth 100000 in
theorem sign_any (vo vs : Value) (os s : List UInt8) (w : World) (ho : OB w 0 vo os) (hs : KR (rowF vo) w vs s) (hl : os.length ≤ 1000000) (hl2 : s.length ≤ 1000000) (hp : 0 < s.length) :
    Calls Try.prog 45 #[vo, vs] w fun e w' => SignPost vo os s w e w' := by
  have hr := hs w (Chg.refl _ _)
  obtain ⟨A, c, rfl, hc⟩ := id hr.len
  obtain ⟨ad, rfl, hc0, hc1⟩ := RB.byte0 hr hp
  have H := SH.row B8 ho
  obtain ⟨olen, hol⟩ : ∃ n, n = os.length := ⟨_, rfl⟩
  obtain ⟨Ao, co, rfl, hco⟩ := ho.reads.len
  obtain ⟨x, hx⟩ : ∃ x, x = s.getD 0 0 := ⟨_, rfl⟩
  rw [← hx] at hc0
  have hxl := x.toNat_lt
  unfold SignPost
  by_cases h128 : x.toNat < 128
  · have h128' : (x.toNat : Int) < 128 := by omega
    obtain ⟨A1, _, hcut1, _, hr1⟩ := cutK (some ad) c s hs hc 1 s.length (by omega) (Nat.le_refl _)
    have hk1 : ∀ W, (Instr.slice 22 (.slice (some ad) s.length c) (some (.int .i64 1)) none none).run Try.prog W = .ok (.slice A1 (s.length - 1) (c - 1)) W := fun W => hcut1 .i64 W rfl
    rw [List.take_of_length_le (Nat.le_refl _)] at hr1
    have hd1 : (s.drop 1).length = s.length - 1 := List.length_drop
    have cT := TakeBytes_any (.slice A1 (s.length - 1) (c - 1)) (s.drop 1) ((x.toNat : Int) + 1) w (hr1 w (Chg.refl _ _)) (by omega)
    have hn0 : ¬ ((x.toNat : Int) + 1 < 0) := by omega
    by_cases hlt : s.length < x.toNat + 2
    · have hE : sgE os s = 2 := by rw [sgE, ← hx, if_pos h128, if_pos hlt]
      have hn1 : ¬ ((x.toNat : Int) + 1 ≤ ((s.drop 1).length : Int)) := by omega
      simp only [if_neg hn0, if_neg hn1] at cT
      rw [hE]
      clear hn0 hn1 hc1 hr hs ho hcut1 hx hE hd1 hr1
      go_enter Try.func45, Try.ntmps45
      go_wp2_with (first
        | (go_at_call 70; (with_reducible refine cT.mono ?_); rintro e w2 ⟨v1, v2, rfl, ho1, ho2, -, hb2⟩; replace H := H.step hb2; clear cT ho2 hb2)
        | (at_builtin; refine wAppend sB H 0 rfl _ [] ho1.reads (by show (os.length + 0) * 1 ≤ _; omega) _ _ rfl rfl rfl rfl ?_; clear H ho1; intro v4 w4 H))
      go_ret3
      first | exact ⟨_, _, rfl, H.chg, fun h => by omega⟩ | exact ⟨⟨_, _, rfl⟩, H.chg⟩ | exact ⟨H.chg, fun h => by omega⟩ | exact H.chg
    · have hE : sgE os s = 0 := by rw [sgE, ← hx, if_pos h128, if_neg hlt]
      have hO : sgO os s = os ++ (s.drop 1).take (x.toNat + 1) := by rw [sgO, ← hx, if_pos h128]
      have hR : sgR s = (s.drop 1).drop (x.toNat + 1) := by rw [sgR, ← hx, if_pos h128, List.drop_drop]; congr 1; omega
      have hn1 : (x.toNat : Int) + 1 ≤ ((s.drop 1).length : Int) := by omega
      have hN : ((x.toNat : Int) + 1).toNat = x.toNat + 1 := by omega
      simp only [if_neg hn0, if_pos hn1, hN] at cT
      have htl : ((s.drop 1).take (x.toNat + 1)).length ≤ 1000 := by rw [List.length_take]; omega
      rw [hE, hO, hR]
      clear hn0 hn1 hc1 hr hs ho hcut1 hx hE hd1 hr1 hO hR hN
      generalize (s.drop 1).take (x.toNat + 1) = T at *
      generalize (s.drop 1).drop (x.toNat + 1) = R at *
      go_enter Try.func45, Try.ntmps45
      go_wp2_with (first
        | (go_at_call 70; (with_reducible refine cT.mono ?_); rintro e w2 ⟨v1, v2, rfl, ho1, ho2, -, hb2⟩; replace H := H.pushRow hb2 ho2; clear cT ho2 hb2)
        | (at_builtin; refine wAppend sB H 1 rfl _ T ho1.reads (by show (os.length + _) * 1 ≤ _; omega) _ _ rfl rfl rfl rfl ?_; clear H ho1; intro v4 w4 H))
      go_ret3
      exact ⟨_, _, rfl, H.chg, fun _ => ⟨H.tail, H.kr2 1 0 rfl rfl (by omega)⟩⟩
  · have h128' : ¬ (x.toNat : Int) < 128 := by omega
    by_cases h2 : s.length < 2
    · have hE : sgE os s = 2 := by rw [sgE, ← hx, if_neg h128, if_pos h2]
      have h2' : (s.length : Int) < 2 := by omega
      rw [hE]
      clear hc1 hr hs ho hx hE
      go_enter Try.func45, Try.ntmps45
      go_wp2
      go_ret3
      first | exact ⟨_, _, rfl, H.chg, fun h => by omega⟩ | exact ⟨⟨_, _, rfl⟩, H.chg⟩ | exact ⟨H.chg, fun h => by omega⟩ | exact H.chg
    · have h2' : (2 : Int) ≤ (s.length : Int) := by omega
      have hk := hc1 (by omega)
      obtain ⟨y, hy⟩ : ∃ y, y = s.getD 1 0 := ⟨_, rfl⟩
      rw [← hy] at hk
      have hyl := y.toNat_lt
      by_cases h3 : y.toNat = 0 ∨ os.length < y.toNat
      · have hE : sgE os s = 3 := by rw [sgE, ← hx, ← hy, if_neg h128, if_neg h2, if_pos h3]
        rw [hE]
        clear hc1 hr hs ho hx hE hy
        by_cases hy0 : y.toNat = 0
        · have hy1 : ((y.toNat : Int) == 0) = true := by rw [hy0]; rfl
          clear h3 hy0
          go_enter Try.func45, Try.ntmps45
          go_wp2
          go_ret3
          first | exact ⟨_, _, rfl, H.chg, fun h => by omega⟩ | exact ⟨⟨_, _, rfl⟩, H.chg⟩ | exact ⟨H.chg, fun h => by omega⟩ | exact H.chg
        · have hy1 : ((y.toNat : Int) == 0) = false := by simpa using hy0
          have hy2 : decide ((os.length : Int) < (y.toNat : Int)) = true := by simp; omega
          have hy3 : (os.length : Int) < (y.toNat : Int) := by omega
          clear h3 hy0
          go_enter Try.func45, Try.ntmps45
          go_wp2
          go_ret3
          first | exact ⟨_, _, rfl, H.chg, fun h => by omega⟩ | exact ⟨⟨_, _, rfl⟩, H.chg⟩ | exact ⟨H.chg, fun h => by omega⟩ | exact H.chg
      · have hE : sgE os s = 0 := by rw [sgE, ← hx, ← hy, if_neg h128, if_neg h2, if_neg h3]
        have hO : sgO os s = backL y.toNat (x.toNat - 124) os := by rw [sgO, ← hx, ← hy, if_neg h128]
        have hR : sgR s = s.drop 2 := by rw [sgR, ← hx, if_neg h128]
        rw [hE, hO, hR]
        have hy1 : ((y.toNat : Int) == 0) = false := by simp; omega
        have hy2 : decide ((os.length : Int) < (y.toNat : Int)) = false := by simp; omega
        obtain ⟨A1, _, hcut1, _, hr1⟩ := cutK (some ad) c s hs hc 2 s.length (by omega) (Nat.le_refl _)
        have hk1 : ∀ W, (Instr.slice 22 (.slice (some ad) s.length c) (some (.int .i64 2)) none none).run Try.prog W = .ok (.slice A1 (s.length - 2) (c - 2)) W := fun W => hcut1 .i64 W rfl
        rw [List.take_of_length_le (Nat.le_refl _)] at hr1
        have hm : IntKind.i64.wrap ((x.toNat : Int) - 124) = ((x.toNat - 124 : Nat) : Int) := by rw [IntKind.wrap_i64]; omega
        have hyo : y.toNat ≤ os.length := by omega
        have hyp : 0 < y.toNat := by omega
        have HB := Lib.hid (back_any (.slice Ao os.length co) os (x.toNat - 124) y.toNat)
        clear hc1 hr hs hx hE hy hO hR hcut1 h3
        go_enter Try.func45, Try.ntmps45
        go_wp2
        replace H := H.drew
        refine startS (fun _ => True) (by kernel_rfl) trivial ?_
        refine takeS 0 trivial rfl (by kernel_rfl) (by kernel_rfl) (by kernel_rfl) (fun _ _ _ h => h) rfl (v := ?_) ?_ ?_
        rotate_left
        · intro w' hw'; clear hw'; go_simp; (try with_reducible rfl)
        (try simp only [Act.put, List.setIfInBounds_toArray, List.set_cons_zero, List.set_cons_succ])
        refine takeS 1 trivial rfl (by kernel_rfl) (by kernel_rfl) (by kernel_rfl) (fun _ _ _ h => h) rfl (v := ?_) ?_ ?_
        rotate_left
        · intro w' hw'; clear hw'; go_simp; (try with_reducible rfl)
        (try simp only [Act.put, List.setIfInBounds_toArray, List.set_cons_zero, List.set_cons_succ])
        refine takeS 2 trivial rfl (by kernel_rfl) (by kernel_rfl) (by kernel_rfl) (fun _ _ _ h => h) rfl (v := ?_) ?_ ?_
        rotate_left
        · intro w' hw'; clear hw'; go_simp; (try with_reducible rfl)
        (try simp only [Act.put, List.setIfInBounds_toArray, List.set_cons_zero, List.set_cons_succ])
        refine takeS 3 trivial rfl (by kernel_rfl) (by kernel_rfl) (by kernel_rfl) (fun _ _ _ h => h) rfl (v := ?_) ?_ ?_
        rotate_left
        · intro w' hw'; clear hw'; go_simp; (try with_reducible rfl)
        (try simp only [Act.put, List.setIfInBounds_toArray, List.set_cons_zero, List.set_cons_succ])
        refine takeS 5 trivial rfl (by kernel_rfl) (by kernel_rfl) (by kernel_rfl) (fun _ _ _ h => h) rfl (v := ?_) ?_ ?_
        rotate_left
        · intro w' hw'; clear hw'; go_simp; (try with_reducible rfl)
        (try simp only [Act.put, List.setIfInBounds_toArray, List.set_cons_zero, List.set_cons_succ])
        refine takeS 6 trivial rfl (by kernel_rfl) (by kernel_rfl) (by kernel_rfl) (fun _ _ _ h => h) rfl (v := ?_) ?_ ?_
        rotate_left
        · intro w' hw'; clear hw'; go_simp; (try with_reducible rfl)
        (try simp only [Act.put, List.setIfInBounds_toArray, List.set_cons_zero, List.set_cons_succ])
        refine stepS' 4 rfl (by kernel_rfl) rfl (fun K hK => ?_)
        (go_simp; (with_reducible refine (HB.out _ (H.or0 0 rfl) hl (by omega) hyp hyo).mono ?_); rintro e w3 ⟨v3, rfl, k3⟩; refine hK.out _ _ trivial ?_; clear K hK; replace H := H.via 0 rfl k3; clear k3)
        (try simp only [Act.put, List.setIfInBounds_toArray, List.set_cons_zero, List.set_cons_succ])
        refine takeS 7 trivial rfl (by kernel_rfl) (by kernel_rfl) (by kernel_rfl) (fun _ _ _ h => h) rfl (v := ?_) ?_ ?_
        rotate_left
        · intro w' hw'; clear hw'; go_simp; (try with_reducible rfl)
        (try simp only [Act.put, List.setIfInBounds_toArray, List.set_cons_zero, List.set_cons_succ])
        refine takeS 8 trivial rfl (by kernel_rfl) (by kernel_rfl) (by kernel_rfl) (fun _ _ _ h => h) rfl (v := ?_) ?_ ?_
        rotate_left
        · intro w' hw'; clear hw'; go_simp; (try with_reducible rfl)
        (try simp only [Act.put, List.setIfInBounds_toArray, List.set_cons_zero, List.set_cons_succ])
        refine takeS 9 trivial rfl (by kernel_rfl) (by kernel_rfl) (by kernel_rfl) (fun _ _ _ h => h) rfl (v := ?_) ?_ ?_
        rotate_left
        · intro w' hw'; clear hw'; go_simp; (try with_reducible rfl)
        (try simp only [Act.put, List.setIfInBounds_toArray, List.set_cons_zero, List.set_cons_succ])
        refine doneS (by kernel_rfl) ?_
        go_wp2
        go_ret3
        exact ⟨_, _, rfl, H.chg, fun _ => ⟨H, H.kr3 hr1⟩⟩

theorem sgO_len (out s : List UInt8) (h : 0 < s.length) : (sgO out s).length ≤ out.length + 131 := by
  have := (s.getD 0 0).toNat_lt
  unfold sgO
  split
  · rw [List.length_append, List.length_take]; omega
  · rw [backL_len]; omega
theorem sg_E (out s : List UInt8) : sgE out s = 0 ∨ sgE out s = 2 ∨ sgE out s = 3 := by
  unfold sgE; split <;> split <;> (try split) <;> simp
theorem tkR_len (s : List UInt8) : (tkR s).length ≤ s.length := by
  unfold tkR; split
  · rw [List.length_drop]; omega
  · simp
theorem tkE_le (s : List UInt8) : tkE s = 0 ∨ tkE s = 2 ∨ tkE s = 3 := by
  have : ∀ f i acc b, (tkGo f i acc b).1 = 0 ∨ (tkGo f i acc b).1 = 2 ∨ (tkGo f i acc b).1 = 3 := by
    intro f
    induction f with
    | zero => intro i acc b; exact .inr (.inr rfl)
    | succ f ih =>
      intro i acc b
      cases b with
      | nil => exact .inr (.inl rfl)
      | cons c r =>
        rw [tkGo]
        split
        · split
          · exact .inl rfl
          · exact .inr (.inr rfl)
        · exact ih _ _ _
  exact this _ _ _ _
def relX (s : List UInt8) (n : Nat) (w : World) (v7 v5 : Value) (wr : World) : Prop := ∃ (out r : List UInt8), Hid (exG n r out = exG n (tkR s) []) ∧ out.length ≤ n ∧ r.length ≤ 1000000 ∧ SH Nil w wr [.row B8 v7 out] ∧ KR (rowF v7) wr v5 r
set_option maxHeartbeats 1600000 in
set_option maxRecDepth 100000 in
theorem Expand_any (v : Value) (s : List UInt8) (w : World) (hv : RB w v s) (hl : s.length ≤ 1000000) :
    Calls Try.prog 17 #[v] w fun e w' => ∃ v', e = .returned (.tuple #[v', .int .i64 ((exP s).1 : Int)]) ∧ OB w' w.heap.size v' (exP s).2 ∧ Below w.heap.size w w' := by
  obtain ⟨A, c, rfl, hc⟩ := id hv.len
  have cT := Take_any (.slice A s.length c) s w hv (by omega)
  have hrl := tkR_len s
  obtain ⟨n, hn⟩ : ∃ n, n = tkN s := ⟨_, rfl⟩
  rw [← hn] at cT
  by_cases hE : tkE s = 0
  · have hE' : ((tkE s : Nat) : Int) = 0 := by omega
    rw [hE'] at cT
    by_cases h5 : 5000 < n
    · have hP : exP s = (4, []) := by rw [exP, if_neg (by omega), if_pos (by omega)]
      have h5' : (5000 : Int) < (n : Int) := by omega
      rw [hP]
      clear hP hE hE' hn
      go_enter Try.func17, Try.ntmps17
      go_wp2_with (first
        | (go_at_call 44; (with_reducible refine cT.mono ?_); rintro e w1 ⟨v1, rfl, -, hb1⟩))
      go_ret2
      exact ⟨_, rfl, OR.nil _ _, hb1⟩
    · have hP : exP s = exG n (tkR s) [] := by rw [exP, if_neg (by omega), if_neg (by omega), hn]
      have h5' : (n : Int) ≤ 5000 := by omega
      have hni : IntKind.i64.wrap (n : Int) = (n : Int) := by rw [IntKind.wrap_i64]; omega
      rw [hP]
      obtain ⟨p, hp⟩ : ∃ p, p = exG n (tkR s) [] := ⟨_, rfl⟩
      rw [← hp]
      have HP := Lib.hid hp
      clear hP hE hE' hn h5 hp
      have H := SH.start Nil w
      go_enter Try.func17, Try.ntmps17
      go_wp2_with (first
        | (go_at_call 44; (with_reducible refine cT.mono ?_); rintro e w1 ⟨v1, rfl, ho1, hb1⟩; replace H := (H.pushRow hb1 ho1).pushRow (alloc_belowAt _ (.cells #[] 5)) (OB.lit w1 w1.heap.size [] #[] rfl (Nat.le_refl _) (by simp)); clear ho1 hb1 cT))
      have hkr := H.kr2 0 1 rfl rfl (by omega)
      replace H := H.erase 1
      go_loopw [7, 5] (fun v7 v5 wr => relX s n w v7 v5 wr) (fun _ v _ => lenV' v)
      case atStart => exact ⟨[], tkR s, by rfl, by simp, by omega, H, hkr⟩
      case round =>
        rename_i v7 v5 wr
        obtain ⟨out, r, HD, hol, hrl2, HS, hk⟩ := hrel
        clear H hkr
        obtain ⟨A5, c5, rfl, hc5⟩ := (hk wr (Chg.refl _ _)).len
        obtain ⟨A7, c7, rfl, hc7⟩ := (HS.rr 0 rfl).len
        by_cases hp : 0 < r.length
        · have hp' : (0 : Int) < (r.length : Int) := by omega
          have cS := sign_any (.slice A7 out.length c7) (.slice A5 r.length c5) out r wr (HS.or0 0 rfl) hk (by omega) hrl2 hp
          rcases sg_E out r with hE | hE | hE
          · have hsl := sgO_len out r hp
            have hrr := sgR_lt r hp
            have cS2 : Calls Try.prog 45 #[.slice A7 out.length c7, .slice A5 r.length c5] wr fun e w' => ∃ v1 v2 l1 l2 A1 c1 A2 c2, v1 = .slice A1 l1 c1 ∧ v2 = .slice A2 l2 c2 ∧ l1 = (sgO out r).length ∧ l2 = (sgR r).length ∧ e = .returned (.tuple #[v1, v2, .int .i64 0]) ∧ SH Nil w w' [.row B8 v1 (sgO out r)] ∧ KR (rowF v1) w' v2 (sgR r) := cS.mono fun e w' ⟨v1, v2, he, hch, hok⟩ => by
              obtain ⟨k1, k2⟩ := hok hE
              obtain ⟨A1, c1, h1, _⟩ := (k1.rr 0 rfl).len
              obtain ⟨A2, c2, h2, _⟩ := (k2 w' (Chg.refl _ _)).len
              exact ⟨v1, v2, _, _, A1, c1, A2, c2, h1, h2, rfl, rfl, by rw [he, hE]; rfl, HS.via 0 rfl k1, k2⟩
            by_cases hlong : n < (sgO out r).length
            · have hx := exG_long n r out hp hE hlong
              have hd := HD.out
              rw [hx, ← HP.out] at hd
              have HX := Lib.hid hd
              have hlong' : (n : Int) < ((sgO out r).length : Int) := by omega
              clear hx hd hE hk HS
              go_wp2_with (first
                | (go_at_call 45; (with_reducible refine cS2.mono ?_); rintro e w2 ⟨v1, v2, l1, l2, A1, c1, A2, c2, rfl, rfl, rfl, rfl, rfl, HS, hk⟩; clear cS2))
              go_ret2
              exact ⟨_, by rw [← HX.out]; rfl, by rw [← HX.out]; exact OR.nil _ _, HS.below⟩
            · have hx := exG_next n r out hp hE hlong
              have hd := HD.out
              rw [hx] at hd
              have HX := Lib.hid hd
              have hlong' : ((sgO out r).length : Int) ≤ (n : Int) := by omega
              clear hx hd hE hk HS
              go_wp2_with (first
                | (go_at_call 45; (with_reducible refine cS2.mono ?_); rintro e w2 ⟨v1, v2, l1, l2, A1, c1, A2, c2, rfl, rfl, rfl, rfl, rfl, HS, hk⟩; clear cS2))
              go_roundw
              case rel => first | exact ⟨sgO out r, sgR r, HX, by omega, by omega, HS, hk⟩ | exact ⟨_, _, ⟨sgO out r, sgR r, HX, by omega, by omega, HS, hk⟩, rfl, rfl⟩
              case measure => simp [lenV']; omega
          ·
            have hx := exG_bad n r out hp (by omega)
            have hd := HD.out
            rw [hx, ← HP.out, hE] at hd
            have HX := Lib.hid hd
            have cS2 : Calls Try.prog 45 #[.slice A7 out.length c7, .slice A5 r.length c5] wr fun e w' => ∃ v1 v2, e = .returned (.tuple #[v1, v2, .int .i64 2]) ∧ Below w.heap.size w w' := cS.mono fun e w' ⟨v1, v2, he, hch, hok⟩ => ⟨v1, v2, by rw [he, hE]; rfl, (HS.change 0 rfl hch Own.nil trivial (fun b hb => hb.elim)).below⟩
            clear hx hd hE hk HS cS
            go_wp2_with (first
              | (go_at_call 45; (with_reducible refine cS2.mono ?_); rintro e w2 ⟨v1, v2, rfl, hb2⟩; clear cS2))
            go_ret2
            exact ⟨_, by rw [← HX.out]; rfl, by rw [← HX.out]; exact OR.nil _ _, hb2⟩
          ·
            have hx := exG_bad n r out hp (by omega)
            have hd := HD.out
            rw [hx, ← HP.out, hE] at hd
            have HX := Lib.hid hd
            have cS2 : Calls Try.prog 45 #[.slice A7 out.length c7, .slice A5 r.length c5] wr fun e w' => ∃ v1 v2, e = .returned (.tuple #[v1, v2, .int .i64 3]) ∧ Below w.heap.size w w' := cS.mono fun e w' ⟨v1, v2, he, hch, hok⟩ => ⟨v1, v2, by rw [he, hE]; rfl, (HS.change 0 rfl hch Own.nil trivial (fun b hb => hb.elim)).below⟩
            clear hx hd hE hk HS cS
            go_wp2_with (first
              | (go_at_call 45; (with_reducible refine cS2.mono ?_); rintro e w2 ⟨v1, v2, rfl, hb2⟩; clear cS2))
            go_ret2
            exact ⟨_, by rw [← HX.out]; rfl, by rw [← HX.out]; exact OR.nil _ _, hb2⟩
        · obtain rfl : r = [] := List.eq_nil_of_length_eq_zero (by omega)
          have hd := HD.out
          rw [exG_end, ← HP.out] at hd
          by_cases hlt : out.length < n
          · rw [if_pos hlt] at hd
            have HX := Lib.hid hd
            have hlt' : (out.length : Int) < (n : Int) := by omega
            clear hd hk
            go_wp2
            go_ret2
            exact ⟨_, by rw [← HX.out]; rfl, by rw [← HX.out]; exact OR.nil _ _, HS.below⟩
          · rw [if_neg hlt] at hd
            have HX := Lib.hid hd
            have hlt' : (n : Int) ≤ (out.length : Int) := by omega
            have cC := Clone_any (.slice A7 out.length c7) out wr (HS.rr 0 rfl) (by omega)
            clear hd hk
            go_wp2_with (first
              | (go_at_call 46; (with_reducible refine cC.mono ?_); rintro e w2 ⟨v1, rfl, ho1, hb1⟩; have ho := ho1.lower HS.size; replace HS := (HS.step hb1); clear cC))
            go_ret2
            exact ⟨_, by rw [← HX.out]; rfl, by rw [← HX.out]; exact ho, HS.below⟩
  · have hP : exP s = (tkE s, []) := by rw [exP, if_pos hE]
    have hne : ((tkE s : Int) != 0) = true := by simpa using hE
    have hne2 : ((tkE s : Int) == 0) = false := by simpa using hE
    rw [hP]
    generalize (tkE s : Int) = E at *
    clear hP hE
    go_enter Try.func17, Try.ntmps17
    go_wp2_with (first
      | (go_at_call 44; (with_reducible refine cT.mono ?_); rintro e w1 ⟨v1, rfl, -, hb1⟩))
    go_ret2
    exact ⟨_, rfl, OR.nil _ _, hb1⟩
end Go.Proofs.Ytfnneneaalaagaa
