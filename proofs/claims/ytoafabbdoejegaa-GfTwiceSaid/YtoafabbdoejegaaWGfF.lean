/- The walk of GfTwice. -/
import Derived.Test.YtoafabbdoejegaaWGfE
import Derived.Test.YtoafabbdoejegaaTree
import Derived.Deep.DeepCutAuto
namespace Go.Proofs.Ytoafabbdoejegaa
set_option linter.unusedVariables false
open Go.RowKit Gf

theorem min4 (a b c : Nat) : ∃ n : Nat, n ≤ a ∧ n ≤ b ∧ n ≤ c ∧ n ≤ 30 ∧ ∀ w, Sem.run Try.prog (Builtin.min_ #[3, 3, 3, 3] 3 #[.int .i64 a, .int .i64 b, .int .i64 c, .int .i64 30]) w = .ok (.int .i64 n) w := by
  refine ⟨min (min (min a b) c) 30, by omega, by omega, by omega, by omega, fun w => ?_⟩
  simp only [Builtin.min_, Builtin.min2, List.foldlM_cons, List.foldlM_nil, pure_bind]
  have e : (if (30 : Int) < (if (c : Int) < (if (b : Int) < (a : Int) then (b : Int) else (a : Int)) then (c : Int) else (if (b : Int) < (a : Int) then (b : Int) else (a : Int))) then (30 : Int) else (if (c : Int) < (if (b : Int) < (a : Int) then (b : Int) else (a : Int)) then (c : Int) else (if (b : Int) < (a : Int) then (b : Int) else (a : Int)))) = ((min (min (min a b) c) 30 : Nat) : Int) := by
    (repeat' split) <;> omega
  rw [e]; rfl

/-- Nothing is added out of an empty row. -/
theorem add_zero_c (fb : Nat) (b n cap : Nat) (a' : Option Addr) (c' : Nat) (X : Int) (w : World) (hs : n ≤ 140737488355328) :
    Calls Try.prog 20 #[.pointer (some ⟨fb, 0, none⟩), .slice (some ⟨b, 0, none⟩) n cap, .slice a' 0 c', .int .u8 X] w fun e w' => e = .returned (.tuple #[]) ∧ Ext w w' := by
  by_cases h0 : n = 0
  · subst h0
    go_enter Try.func20, Try.ntmps20
    go_wp2
    go_loop [14] (fun i => i = .int .i64 0) (fun _ => 0)
    case atStart => rfl
    case round =>
      subst hrel
      go_wp2
      go_end0
      exact ⟨rfl, Ext.refl _⟩
  · have h1 : 0 < n := by omega
    clear h0
    go_enter Try.func20, Try.ntmps20
    go_wp2
    go_loop [14] (fun i => i = .int .i64 0) (fun _ => 0)
    case atStart => rfl
    case round =>
      subst hrel
      go_wp2
      go_end0
      exact ⟨rfl, Ext.refl _⟩

namespace Gf
/-- Two rows, byte by byte. -/
def xorL (l m : List Nat) : List Nat := (List.range l.length).map fun i => nth l i ^^^ nth m i
def sumK (l m : List Nat) (n k : Nat) : List Nat := (List.range n).map fun i => if i < k then nth l i ^^^ nth m i else 0
theorem sumK_len (l m : List Nat) (n k : Nat) : (sumK l m n k).length = n := by simp [sumK]
theorem sumK_nth (l m : List Nat) (n k i : Nat) (h : i < n) : nth (sumK l m n k) i = if i < k then nth l i ^^^ nth m i else 0 := by
  rw [nth_eq (by rw [sumK_len]; exact h)]; simp [sumK]
theorem sumK_zero (l m : List Nat) (n : Nat) : sumK l m n 0 = List.replicate n 0 := by
  apply ext_nth (by simp [sumK_len])
  intro i hi
  have hi' : i < n := by simpa [sumK_len] using hi
  rw [sumK_nth _ _ _ _ _ hi', nth_replicate, if_neg (by omega), if_pos hi']
theorem sumK_step (l m : List Nat) (n k : Nat) (h : k < n) : (sumK l m n k).set k (nth l k ^^^ nth m k) = sumK l m n (k + 1) := by
  apply ext_nth (by simp [sumK_len])
  intro i hi
  have hi' : i < n := by simpa [sumK_len] using hi
  rw [nth_set, sumK_len, sumK_nth _ _ _ _ _ hi', sumK_nth _ _ _ _ _ hi']
  by_cases e : k = i
  · subst e; rw [if_pos ⟨rfl, h⟩, if_pos (by omega)]
  · rw [if_neg (by omega)]
    by_cases h2 : i < k
    · rw [if_pos h2, if_pos (by omega)]
    · rw [if_neg h2, if_neg (by omega)]
theorem sumK_end (l m : List Nat) (n : Nat) (h : l.length = n) : sumK l m n n = xorL l m := by
  subst h
  unfold sumK xorL
  apply List.map_congr_left
  intro i hi
  rw [if_pos (List.mem_range.1 hi)]
theorem xorL_len (l m : List Nat) : (xorL l m).length = l.length := by simp [xorL]
theorem xorL_nth (l m : List Nat) (i : Nat) (h : i < l.length) : nth (xorL l m) i = nth l i ^^^ nth m i := by
  rw [nth_eq (by rw [xorL_len]; exact h)]; simp [xorL]
theorem xorL_byte (l m : List Nat) (hl : ∀ x ∈ l, x < 256) (hm : ∀ x ∈ m, x < 256) : ∀ x ∈ xorL l m, x < 256 := by
  intro y hy
  obtain ⟨i, hi, rfl⟩ := List.getElem_of_mem hy
  rw [← nth_eq, xorL_nth _ _ _ (by simpa [xorL_len] using hi)]
  exact xor_bd _ _ (nth_lt hl i) (nth_lt hm i)
theorem addB_factors (l f : List Nat) (x y : Nat) (hx : x < 256) (hy : y < 256) : addB (addB l f x) f y = addB l f (x ^^^ y) := by
  apply ext_nth (by simp [addB_len])
  intro i hi
  have hi' : i < l.length := by simpa [addB_len] using hi
  rw [addB_nth _ _ _ _ (by rw [addB_len]; exact hi'), addB_nth _ _ _ _ hi', addB_nth _ _ _ _ hi']
  split
  · rw [Nat.xor_assoc, xor_mul x y _ hx hy]
  · rfl
theorem addB_rows (l f g : List Nat) (x : Nat) (hf : ∀ z ∈ f, z < 256) (hg : ∀ z ∈ g, z < 256) (h1 : f.length = l.length) (h2 : g.length = l.length) : addB (addB l g x) f x = addB l (xorL f g) x := by
  apply ext_nth (by simp [addB_len])
  intro i hi
  have hi' : i < l.length := by simpa [addB_len] using hi
  rw [addB_nth _ _ _ _ (by rw [addB_len]; exact hi'), addB_nth _ _ _ _ hi', addB_nth _ _ _ _ hi', if_pos (by omega), if_pos (by omega), if_pos (by rw [xorL_len]; omega),
    xorL_nth _ _ _ (by omega), mul_xor x _ _ (nth_lt hf i) (nth_lt hg i), Nat.xor_assoc, Nat.xor_comm (mul x (nth g i))]
end Gf

set_option maxRecDepth 100000 in
set_option maxHeartbeats 4000000 in
theorem gfTwice_0 (a0 : Option Addr) (len0 cap0 : Nat) (b1 o1 : Nat) (len1 cap1 : Nat) (b2 o2 : Nat) (len2 cap2 : Nat) (x y n : Nat) (l0 l1 l2 : List Nat) (w : World)
    (B0' : BytesAt w a0 n l0) (B1' : BytesAt w (some ⟨b1, o1, none⟩) n l1) (B2' : BytesAt w (some ⟨b2, o2, none⟩) n l2) (hn30 : n ≤ 30) (hl1 : n ≤ len1) (hl2 : n ≤ len2) (hc0 : n ≤ cap0) (hc1 : n ≤ cap1) (hc2 : n ≤ cap2) (hx : x < 256) (hy : y < 256)
    (hmin : ∀ w, Sem.run Try.prog (Builtin.min_ #[3, 3, 3, 3] 3 #[.int .i64 len0, .int .i64 len1, .int .i64 len2, .int .i64 30]) w = .ok (.int .i64 n) w) (h0 : 0 < n) :
    Calls Try.prog 9 #[.slice a0 len0 cap0, .slice (some ⟨b1, o1, none⟩) len1 cap1, .slice (some ⟨b2, o2, none⟩) len2 cap2, .int .u8 x, .int .u8 y] w fun e w' => e = .returned (.bool true) ∧ Ext w w' := by
  skip
  have B0 := hid B0'; have B1 := hid B1'; have B2 := hid B2'
  have L0 : Hid (l0.length = n) := hid B0'.len
  have L1 : Hid (l1.length = n) := hid B1'.len
  have L2 : Hid (l2.length = n) := hid B2'.len
  clear B0' B1' B2'
  go_enter Try.func9, Try.ntmps9
  go_wp2_with fail
  refine (make_c w).mono ?_
  rintro e v1 ⟨fb, rfl, hfb, hf, h0x⟩
  have hfl : fb < v1.heap.size := lt_of_block hf
  have HX1 := hid h0x; have HF1 := hid hf
  have hws := h0x.size
  clear h0x hf hfb
  go_upto_region 5 with (fail)
  go_cut [13, 14] (fun vp vq wr => ∃ p pc q qc, vp = .slice (some ⟨p, 0, none⟩) n pc ∧ vq = .slice (some ⟨q, 0, none⟩) n qc ∧ wr.ownsRow 0 5 1 (.slice (some ⟨p, 0, none⟩) n pc) n (l0.map bv) ∧ wr.ownsRow 0 5 1 (.slice (some ⟨q, 0, none⟩) n qc) n (l0.map bv) ∧ p ≠ q ∧ v1.heap.size ≤ p ∧ v1.heap.size ≤ q ∧ Ext v1 wr)
  case first =>
    have hap0 := hid B0.out
    refine wp_region_tree (.two [1,2,3,6,7,8] 0 5 (.two [] 4 5 (.one [] 5 (.one [] 9 (.done [10,11]))) (.one [] 4 (.one [] 9 (.done [10,11])))) (.one [] 0 (.one [] 4 (.one [] 9 (.done [10,11]))))) (by kernel_rfl) (by kernel_rfl) (fun _ _ d _ _ h => by cases d <;> exact h) ?_
    rw [wpTree]
    simp only [opsAt, List.map_cons, List.map_nil, Array.getD_eq_getD_getElem?, List.getElem?_toArray, List.getElem?_cons_succ, List.getElem?_cons_zero, Option.getD_some]
    repeat (refine wpPure_step (fun K hK => ?_); go_simp; refine hK _ ?_; clear hK K)
    refine wpPure_nil ?_
    refine ⟨?_, ?_⟩
    · refine wpTree_loud fun K hK => ?_
      go_wp2
      rw [wpTree]
      simp only [opsAt, List.map_cons, List.map_nil, Array.getD_eq_getD_getElem?, List.getElem?_toArray, List.getElem?_cons_succ, List.getElem?_cons_zero, Option.getD_some]
      refine wpPure_nil ?_
      refine ⟨?_, ?_⟩
      · obtain ⟨p, pc, W2, hap, hown, hon, hgp⟩ := append_fresh_at ((v1.alloc (.cells #[] 5)).drew) v1.heap.size block_alloc a0 n cap0 l0 (B0.out.ext ((HX1.out.alloc _).drew))
        have x2 : Ext v1 W2 := Ext.then ((Ext.refl v1).alloc _).drew hon (fun i hi e => by omega)
        have hsv : ((v1.alloc (.cells #[] 5)).drew).heap.size = v1.heap.size + 1 := by simp
        have hpl := owns_lt hown
        refine wpTree_loud fun K hK => ?_
        go_wp2_with (refine wpList_append_run rfl _ _ _ rfl _ _ _ _ rfl rfl hap ?_)
        rw [wpTree]
        simp only [opsAt, List.map_cons, List.map_nil, Array.getD_eq_getD_getElem?, List.getElem?_toArray, List.getElem?_cons_succ, List.getElem?_cons_zero, Option.getD_some]
        refine wpPure_nil ?_
        refine wpTree_loud fun K hK => ?_
        go_wp2
        rw [wpTree]
        simp only [opsAt, List.map_cons, List.map_nil, Array.getD_eq_getD_getElem?, List.getElem?_toArray, List.getElem?_cons_succ, List.getElem?_cons_zero, Option.getD_some]
        refine wpPure_nil ?_
        obtain ⟨q, qc, W4, hap2, hown2, hon2, hgq⟩ := append_fresh_at (W2.alloc (.cells #[] 5)) W2.heap.size block_alloc a0 n cap0 l0 (B0.out.ext ((HX1.out.trans x2).alloc _))
        have x4 : Ext v1 W4 := Ext.then (x2.alloc _) hon2 (fun i hi e => by have := x2.size; omega)
        have hsz : (W2.alloc (.cells #[] 5)).heap.size = W2.heap.size + 1 := by simp
        refine wpTree_loud fun K hK => ?_
        go_wp2_with (refine wpList_append_run rfl _ _ _ rfl _ _ _ _ rfl rfl hap2 ?_)
        rw [wpTree]
        simp only [opsAt, List.map_cons, List.map_nil, Array.getD_eq_getD_getElem?, List.getElem?_toArray, List.getElem?_cons_succ, List.getElem?_cons_zero, Option.getD_some]
        repeat (refine wpPure_step (fun K hK => ?_); go_simp; refine hK _ ?_; clear hK K)
        refine wpPure_nil ?_
        go_wp2
        go_meet
        case rel =>
          exact ⟨p, pc, q, qc, rfl, rfl, owns_only (owns_only hown ((Ext.refl W2).alloc _) (fun x => x)) hon2 (by omega), hown2, by omega, by omega, by have := x2.size; omega, x4⟩
      · refine wpTree_loud fun K hK => ?_
        go_wp2
        rw [wpTree]
        simp only [opsAt, List.map_cons, List.map_nil, Array.getD_eq_getD_getElem?, List.getElem?_toArray, List.getElem?_cons_succ, List.getElem?_cons_zero, Option.getD_some]
        refine wpPure_nil ?_
        have hz2 : ((v1.alloc (.cells #[] 5)).alloc (.cells #[] 5)).heap[v1.heap.size]? = some (.cells #[] 5 (0, 0)) := by
          rw [heap_alloc_old _ _ (by simp)]; exact block_alloc
        have hz3 : ((v1.alloc (.cells #[] 5)).alloc (.cells #[] 5)).heap[v1.heap.size + 1]? = some (.cells #[] 5 (0, 0)) := by
          have := block_alloc (w := v1.alloc (.cells #[] 5)) (o := .cells #[] 5)
          rwa [show (v1.alloc (.cells #[] 5)).heap.size = v1.heap.size + 1 by simp] at this
        have hsz : (((v1.alloc (.cells #[] 5)).alloc (.cells #[] 5)).drew).heap.size = v1.heap.size + 2 := by simp
        obtain ⟨p, pc, W2, hap, hown, hon, hgp⟩ := append_fresh_at (((v1.alloc (.cells #[] 5)).alloc (.cells #[] 5)).drew) (v1.heap.size) hz2 a0 n cap0 l0 (B0.out.ext (((HX1.out.alloc _).alloc _).drew))
        have x2 : Ext v1 W2 := Ext.then (((Ext.refl v1).alloc _).alloc _).drew hon (fun i hi e => by omega)
        have hpl := owns_lt hown
        have hs2 := hon.size
        refine wpTree_loud fun K hK => ?_
        go_wp2_with (refine wpList_append_run rfl _ _ _ rfl _ _ _ _ rfl rfl hap ?_)
        rw [wpTree]
        simp only [opsAt, List.map_cons, List.map_nil, Array.getD_eq_getD_getElem?, List.getElem?_toArray, List.getElem?_cons_succ, List.getElem?_cons_zero, Option.getD_some]
        refine wpPure_nil ?_
        obtain ⟨q, qc, W4, hap2, hown2, hon2, hgq⟩ := append_fresh_at W2 (v1.heap.size + 1) (hon.at hz3 (by omega)) a0 n cap0 l0 (B0.out.ext (HX1.out.trans x2))
        have x4 : Ext v1 W4 := Ext.then x2 hon2 (fun i hi e => by omega)
        refine wpTree_loud fun K hK => ?_
        go_wp2_with (refine wpList_append_run rfl _ _ _ rfl _ _ _ _ rfl rfl hap2 ?_)
        rw [wpTree]
        simp only [opsAt, List.map_cons, List.map_nil, Array.getD_eq_getD_getElem?, List.getElem?_toArray, List.getElem?_cons_succ, List.getElem?_cons_zero, Option.getD_some]
        repeat (refine wpPure_step (fun K hK => ?_); go_simp; refine hK _ ?_; clear hK K)
        refine wpPure_nil ?_
        go_wp2
        go_meet
        case rel =>
          exact ⟨p, pc, q, qc, rfl, rfl, owns_only hown hon2 (by omega), hown2, by omega, by omega, by omega, x4⟩
        
    · refine wpTree_loud fun K hK => ?_
      go_wp2
      rw [wpTree]
      simp only [opsAt, List.map_cons, List.map_nil, Array.getD_eq_getD_getElem?, List.getElem?_toArray, List.getElem?_cons_succ, List.getElem?_cons_zero, Option.getD_some]
      refine wpPure_nil ?_
      refine wpTree_loud fun K hK => ?_
      go_wp2
      rw [wpTree]
      simp only [opsAt, List.map_cons, List.map_nil, Array.getD_eq_getD_getElem?, List.getElem?_toArray, List.getElem?_cons_succ, List.getElem?_cons_zero, Option.getD_some]
      refine wpPure_nil ?_
      have hz2 : ((v1.alloc (.cells #[] 5)).alloc (.cells #[] 5)).heap[v1.heap.size]? = some (.cells #[] 5 (0, 0)) := by
        rw [heap_alloc_old _ _ (by simp)]; exact block_alloc
      have hz3 : ((v1.alloc (.cells #[] 5)).alloc (.cells #[] 5)).heap[v1.heap.size + 1]? = some (.cells #[] 5 (0, 0)) := by
        have := block_alloc (w := v1.alloc (.cells #[] 5)) (o := .cells #[] 5)
        rwa [show (v1.alloc (.cells #[] 5)).heap.size = v1.heap.size + 1 by simp] at this
      have hsz : (((v1.alloc (.cells #[] 5)).alloc (.cells #[] 5)).drew).heap.size = v1.heap.size + 2 := by simp
      obtain ⟨p, pc, W2, hap, hown, hon, hgp⟩ := append_fresh_at (((v1.alloc (.cells #[] 5)).alloc (.cells #[] 5)).drew) (v1.heap.size + 1) hz3 a0 n cap0 l0 (B0.out.ext (((HX1.out.alloc _).alloc _).drew))
      have x2 : Ext v1 W2 := Ext.then (((Ext.refl v1).alloc _).alloc _).drew hon (fun i hi e => by omega)
      have hpl := owns_lt hown
      have hs2 := hon.size
      refine wpTree_loud fun K hK => ?_
      go_wp2_with (refine wpList_append_run rfl _ _ _ rfl _ _ _ _ rfl rfl hap ?_)
      rw [wpTree]
      simp only [opsAt, List.map_cons, List.map_nil, Array.getD_eq_getD_getElem?, List.getElem?_toArray, List.getElem?_cons_succ, List.getElem?_cons_zero, Option.getD_some]
      refine wpPure_nil ?_
      obtain ⟨q, qc, W4, hap2, hown2, hon2, hgq⟩ := append_fresh_at W2 (v1.heap.size) (hon.at hz2 (by omega)) a0 n cap0 l0 (B0.out.ext (HX1.out.trans x2))
      have x4 : Ext v1 W4 := Ext.then x2 hon2 (fun i hi e => by omega)
      refine wpTree_loud fun K hK => ?_
      go_wp2_with (refine wpList_append_run rfl _ _ _ rfl _ _ _ _ rfl rfl hap2 ?_)
      rw [wpTree]
      simp only [opsAt, List.map_cons, List.map_nil, Array.getD_eq_getD_getElem?, List.getElem?_toArray, List.getElem?_cons_succ, List.getElem?_cons_zero, Option.getD_some]
      repeat (refine wpPure_step (fun K hK => ?_); go_simp; refine hK _ ?_; clear hK K)
      refine wpPure_nil ?_
      go_wp2
      go_meet
      case rel =>
        exact ⟨p, pc, q, qc, rfl, rfl, owns_only hown hon2 (by omega), hown2, by omega, by omega, by omega, x4⟩
  case rest =>
    obtain ⟨p, pc, q, qc, rfl, rfl, hp, hq, hpq, hvp, hvq, hx1⟩ := hcut
    have X2 := hid (HX1.out.trans hx1)
    have F2 := hid (HF1.out.ext hx1)
    have P2 := hid hp; have Q2 := hid hq
    have hpl := owns_lt hp
    have hql := owns_lt hq
    clear hp hq hx1
    go_wp2_with fail
    have hb1 : b1 < w.heap.size := B1.out.lt b1 h0 ⟨_, rfl, rfl⟩
    have hb2 : b2 < w.heap.size := B2.out.lt b2 h0 ⟨_, rfl, rfl⟩
    refine (add_c fb p n pc b1 o1 n cap1 l0 l1 x wc F2.out P2.out (by first | exact B0.out.byte | exact BY0.out | exact Gf.addB_byte _ _ _ (by omega) B0.out.byte | exact Gf.addB_byte _ _ _ (by omega) BY0.out) (by omega) (B1.out.ext X2.out) (by omega) (by omega) (by omega)).mono ?_
    rintro e v3 ⟨rfl, ho3, on3⟩
    rw [Int.toNat_natCast] at ho3
    have X3 : Hid (Ext w v3) := hid (Ext.then X2.out on3 (fun i hi e => by omega))
    have F3 : Hid (FieldAt v3 fb) := hid (on3.at F2.out (by omega))
    have P3 := hid ho3
    have Q3 := hid (owns_only Q2.out on3 (by omega))
    have hsz3 := on3.size
    clear X2 F2 P2 Q2 ho3 on3
    go_wp2_with fail
    refine (add_c fb p n pc b1 o1 n cap1 (Gf.addB l0 l1 x) l1 y v3 F3.out P3.out (by first | exact B0.out.byte | exact BY0.out | exact Gf.addB_byte _ _ _ (by omega) B0.out.byte | exact Gf.addB_byte _ _ _ (by omega) BY0.out) (by omega) (B1.out.ext X3.out) (by omega) (by omega) (by omega)).mono ?_
    rintro e v4 ⟨rfl, ho4, on4⟩
    rw [Int.toNat_natCast] at ho4
    have X4 : Hid (Ext w v4) := hid (Ext.then X3.out on4 (fun i hi e => by omega))
    have F4 : Hid (FieldAt v4 fb) := hid (on4.at F3.out (by omega))
    have P4 := hid ho4
    have Q4 := hid (owns_only Q3.out on4 (by omega))
    have hsz4 := on4.size
    clear X3 F3 P3 Q3 ho4 on4
    have hxy : bits .xor .u8 (x : Int) (y : Int) = ((x ^^^ y : Nat) : Int) := u8_xor_nat x y hx hy
    have hz : x ^^^ y < 256 := Gf.xor_bd x y hx hy
    obtain ⟨z, hze⟩ : ∃ z, x ^^^ y = z := ⟨_, rfl⟩
    have HZ := hid hze
    rw [hze] at hxy hz
    clear hze
    go_wp2_with fail
    refine (add_c fb q n qc b1 o1 n cap1 l0 l1 z v4 F4.out Q4.out (by first | exact B0.out.byte | exact BY0.out | exact Gf.addB_byte _ _ _ (by omega) B0.out.byte | exact Gf.addB_byte _ _ _ (by omega) BY0.out) (by omega) (B1.out.ext X4.out) (by omega) (by omega) (by omega)).mono ?_
    rintro e v5 ⟨rfl, ho5, on5⟩
    rw [Int.toNat_natCast] at ho5
    have X5 : Hid (Ext w v5) := hid (Ext.then X4.out on5 (fun i hi e => by omega))
    have F5 : Hid (FieldAt v5 fb) := hid (on5.at F4.out (by omega))
    have Q5 := hid ho5
    have P5 := hid (owns_only P4.out on5 (by omega))
    have hsz5 := on5.size
    clear X4 F4 P4 Q4 ho5 on5
    have EQ1 : Hid (Gf.addB (Gf.addB l0 l1 x) l1 y = Gf.addB l0 l1 z) := hid (by rw [Gf.addB_factors l0 l1 x y hx hy, HZ.out])
    rw [EQ1.out] at P5
    have BY0 : Hid (∀ u ∈ Gf.addB l0 l1 z, u < 256) := hid (Gf.addB_byte _ _ _ hz B0.out.byte)
    go_wp2_with fail
    refine (same_c pc qc (owns_bytes P5.out BY0.out (by omega)) (owns_bytes Q5.out BY0.out (by omega))).mono ?_
    rintro e v6 ⟨rfl, x6⟩
    rw [show decide (Gf.addB l0 l1 z = Gf.addB l0 l1 z) = true by simp]
    have X6 := hid (X5.out.trans x6)
    have F6 := hid (F5.out.ext x6)
    have P6 := hid (owns_only P5.out x6 (fun x => x))
    have Q6 := hid (owns_only Q5.out x6 (fun x => x))
    have hs6 := x6.size
    clear x6 hxy
    obtain ⟨l, hle⟩ : ∃ l, Gf.addB l0 l1 z = l := ⟨_, rfl⟩
    have LL : Hid (l.length = n) := hid (by rw [← hle, Gf.addB_len]; exact L0.out)
    rw [hle] at P6 Q6 BY0
    clear P5 Q5 F5 X5 EQ1 HZ hle
    have hmk := make_bytes (n : Int) (by omega) (by omega) v6
    rw [Int.toNat_natCast] at hmk
    go_wp2
    go_loopw [68] (fun i wr => ∃ k nd : Nat, k ≤ n ∧ i = .int .i64 k ∧ wr = (v6.alloc (.cells (bA (Gf.sumK l1 l2 n k)) 5)).drewN nd) (fun i _ => n - (intOf i).toNat)
    case atStart => exact ⟨0, 0, by omega, rfl, by rw [Gf.sumK_zero]; rfl⟩
    case round =>
      obtain ⟨k, nd, hk, rfl, rfl⟩ := hrel
      clear hmk
      by_cases hlt : k < n
      · have c1 := (X6.out.alloc (.cells (bA (Gf.sumK l1 l2 n k)) 5)).cell (B1.out.get k hlt)
        have c2 := (X6.out.alloc (.cells (bA (Gf.sumK l1 l2 n k)) 5)).cell (B2.out.get k hlt)
        have c3 := bA_get (Gf.sumK l1 l2 n k) k (by rw [Gf.sumK_len]; exact hlt)
        have q1 := nth_lt B1.out.byte k
        have q2 := nth_lt B2.out.byte k
        have HS := hid (Gf.sumK_step l1 l2 n k hlt)
        obtain ⟨T, hT⟩ : ∃ T, Gf.sumK l1 l2 n k = T := ⟨_, rfl⟩
        obtain ⟨y1, hy1⟩ : ∃ y, nth l1 k = y := ⟨_, rfl⟩
        obtain ⟨y2, hy2⟩ : ∃ y, nth l2 k = y := ⟨_, rfl⟩
        rw [hT] at HS c1 c2 c3
        rw [hy1] at HS c1 q1
        rw [hy2] at HS c2 q2
        rw [hT]
        clear hT hy1 hy2
        obtain ⟨c0, hc0e⟩ : ∃ c, nth T k = c := ⟨_, rfl⟩
        rw [hc0e] at c3
        clear hc0e
        have hx12 : bits .xor .u8 (y1 : Int) (y2 : Int) = ((y1 ^^^ y2 : Nat) : Int) := u8_xor_nat _ _ q1 q2
        have HX12 := hid hx12
        clear hx12
        have hbb1 : b1 ≠ v6.heap.size := by have := B1.out.lt b1 h0 ⟨_, rfl, rfl⟩; omega
        have hbb2 : b2 ≠ v6.heap.size := by have := B2.out.lt b2 h0 ⟨_, rfl, rfl⟩; omega
        go_wp2
        refine wp_region_quiet_tail 12 (by kernel_rfl) (by kernel_rfl) ?_
        simp only [List.take_succ_cons, List.take_zero, List.drop_succ_cons, List.drop_zero]
        repeat (go_big_quiet_step (fail))
        refine wpQuiet_nil ?_
        intro _ hw'
        obtain ⟨nq, hw''⟩ := hw'
        subst hw''
        go_wp2
        go_roundw
        case rel => exact ⟨k + 1, nd + nq, by omega, by go_num, by rw [HX12.out, ← HS.out, ← bA_set]; exact Gf.set_alloc _ _ _ _ _ _⟩
        case measure => simp [intOf]; omega
      · obtain rfl : n = k := by omega
        have hend := Gf.sumK_end l1 l2 n L1.out
        rw [hend]
        obtain ⟨v7, hv7⟩ : ∃ v, (v6.alloc (.cells (bA (Gf.xorL l1 l2)) 5)).drewN nd = v := ⟨_, rfl⟩
        have x7 : Ext v6 v7 := by rw [← hv7]; exact ((Ext.refl v6).alloc _).drewN _
        have S7 : Hid (Blk v7 v6.heap.size (Gf.xorL l1 l2)) := hid (by rw [← hv7, Blk, heap_drewN, block_alloc])
        have hs7 : v7.heap.size = v6.heap.size + 1 := by rw [← hv7, heap_drewN]; simp
        obtain ⟨s, hs⟩ : ∃ s, v6.heap.size = s := ⟨_, rfl⟩
        rw [hv7]
        have X7 := hid (X6.out.trans x7)
        have F7 := hid (F6.out.ext x7)
        have P7 := hid (owns_only P6.out x7 (fun x => x))
        have Q7 := hid (owns_only Q6.out x7 (fun x => x))
        clear hv7 x7 hend P6 Q6 F6 X6
        rw [hs] at S7 hs7 ⊢
        have SB : Hid (BytesAt v7 (some ⟨s, 0, none⟩) n (Gf.xorL l1 l2)) := hid (S7.out.bytes (Gf.xorL_byte l1 l2 B1.out.byte B2.out.byte) (by rw [Gf.xorL_len]; exact L1.out) (by omega))
        have hps : p ≠ s := by omega
        have hqs : q ≠ s := by omega
        clear S7
        go_wp2_with fail
        refine (add_c fb p n pc b2 o2 n cap2 l l2 x v7 F7.out P7.out (by first | exact B0.out.byte | exact BY0.out | exact Gf.addB_byte _ _ _ (by omega) B0.out.byte | exact Gf.addB_byte _ _ _ (by omega) BY0.out) (by omega) (B2.out.ext X7.out) (by omega) (by omega) (by omega)).mono ?_
        rintro e v8 ⟨rfl, ho8, on8⟩
        rw [Int.toNat_natCast] at ho8
        have X8 : Hid (Ext w v8) := hid (Ext.then X7.out on8 (fun i hi e => by omega))
        have F8 : Hid (FieldAt v8 fb) := hid (on8.at F7.out (by omega))
        have P8 := hid ho8
        have Q8 := hid (owns_only Q7.out on8 (by omega))
        have hsz8 := on8.size
        clear X7 F7 P7 Q7 ho8
        have SB8 := hid (SB.out.only on8 (fun k _ hk => by obtain ⟨_, e, rfl⟩ := hk; cases e; exact fun h => hps h.symm))
        clear on8
        go_wp2_with fail
        refine (add_c fb p n pc b1 o1 n cap1 (Gf.addB l l2 x) l1 x v8 F8.out P8.out (by first | exact B0.out.byte | exact BY0.out | exact Gf.addB_byte _ _ _ (by omega) B0.out.byte | exact Gf.addB_byte _ _ _ (by omega) BY0.out) (by omega) (B1.out.ext X8.out) (by omega) (by omega) (by omega)).mono ?_
        rintro e v9 ⟨rfl, ho9, on9⟩
        rw [Int.toNat_natCast] at ho9
        have X9 : Hid (Ext w v9) := hid (Ext.then X8.out on9 (fun i hi e => by omega))
        have F9 : Hid (FieldAt v9 fb) := hid (on9.at F8.out (by omega))
        have P9 := hid ho9
        have Q9 := hid (owns_only Q8.out on9 (by omega))
        have hsz9 := on9.size
        clear X8 F8 P8 Q8 ho9
        have SB9 := hid (SB8.out.only on9 (fun k _ hk => by obtain ⟨_, e, rfl⟩ := hk; cases e; exact fun h => hps h.symm))
        clear on9
        go_wp2_with fail
        refine (add_c fb q n qc s 0 n n l (Gf.xorL l1 l2) x v9 F9.out Q9.out BY0.out (by omega) SB9.out (by omega) (by omega) (by omega)).mono ?_
        rintro e v10 ⟨rfl, ho10, on10⟩
        rw [Int.toNat_natCast] at ho10
        have X10 : Ext w v10 := Ext.then X9.out on10 (fun i hi e => by omega)
        have P10 := owns_only P9.out on10 (by omega)
        rw [Gf.addB_rows l l1 l2 x B1.out.byte B2.out.byte (by rw [L1.out, LL.out]) (by rw [L2.out, LL.out])] at P10
        have by10 := Gf.addB_byte l (Gf.xorL l1 l2) x hx BY0.out
        have PB := hid (owns_bytes P10 by10 (by omega))
        have QB := hid (owns_bytes ho10 by10 (by omega))
        clear P10 ho10 on10 by10
        go_wp2_with fail
        refine (same_c pc qc PB.out QB.out).mono ?_
        rintro e v11 ⟨rfl, x11⟩
        rw [show decide (Gf.addB l (Gf.xorL l1 l2) x = Gf.addB l (Gf.xorL l1 l2) x) = true by simp]
        have X11 := X10.trans x11
        go_wp2_with fail
        refine (gfRuns_c v11).mono ?_
        rintro e v12 ⟨rfl, x12⟩
        have X12 := X11.trans x12
        go_wp2
        go_ret
        exact ⟨rfl, X12⟩

set_option maxRecDepth 100000 in
set_option maxHeartbeats 4000000 in
theorem gfTwice_1 (a0 : Option Addr) (len0 cap0 : Nat) (a1 : Option Addr) (len1 cap1 : Nat) (a2 : Option Addr) (len2 cap2 : Nat) (x y n : Nat) (l0 l1 l2 : List Nat) (w : World)
    (B0' : BytesAt w a0 n l0) (B1' : BytesAt w a1 n l1) (B2' : BytesAt w a2 n l2) (hn30 : n ≤ 30) (hl1 : n ≤ len1) (hl2 : n ≤ len2) (hc0 : n ≤ cap0) (hc1 : n ≤ cap1) (hc2 : n ≤ cap2) (hx : x < 256) (hy : y < 256)
    (hmin : ∀ w, Sem.run Try.prog (Builtin.min_ #[3, 3, 3, 3] 3 #[.int .i64 len0, .int .i64 len1, .int .i64 len2, .int .i64 30]) w = .ok (.int .i64 n) w) (h0 : n = 0) :
    Calls Try.prog 9 #[.slice a0 len0 cap0, .slice a1 len1 cap1, .slice a2 len2 cap2, .int .u8 x, .int .u8 y] w fun e w' => e = .returned (.bool true) ∧ Ext w w' := by
  subst h0
  have B0 := hid B0'; have B1 := hid B1'; have B2 := hid B2'
  have L0 : Hid (l0.length = 0) := hid B0'.len
  have L1 : Hid (l1.length = 0) := hid B1'.len
  have L2 : Hid (l2.length = 0) := hid B2'.len
  clear B0' B1' B2'
  go_enter Try.func9, Try.ntmps9
  go_wp2_with fail
  refine (make_c w).mono ?_
  rintro e v1 ⟨fb, rfl, hfb, hf, h0x⟩
  have hfl : fb < v1.heap.size := lt_of_block hf
  have HX1 := hid h0x; have HF1 := hid hf
  have hws := h0x.size
  clear h0x hf hfb
  go_upto_region 5 with (fail)
  go_cut [13, 14] (fun vp vq wr => ∃ p pc q qc, vp = .slice (some ⟨p, 0, none⟩) 0 pc ∧ vq = .slice (some ⟨q, 0, none⟩) 0 qc ∧ wr.ownsRow 0 5 1 (.slice (some ⟨p, 0, none⟩) 0 pc) 0 (l0.map bv) ∧ wr.ownsRow 0 5 1 (.slice (some ⟨q, 0, none⟩) 0 qc) 0 (l0.map bv) ∧ p ≠ q ∧ v1.heap.size ≤ p ∧ v1.heap.size ≤ q ∧ Ext v1 wr)
  case first =>
    have hap0 := hid B0.out
    refine wp_region_tree (.two [1,2,3,6,7,8] 0 5 (.two [] 4 5 (.one [] 5 (.one [] 9 (.done [10,11]))) (.one [] 4 (.one [] 9 (.done [10,11])))) (.one [] 0 (.one [] 4 (.one [] 9 (.done [10,11]))))) (by kernel_rfl) (by kernel_rfl) (fun _ _ d _ _ h => by cases d <;> exact h) ?_
    rw [wpTree]
    simp only [opsAt, List.map_cons, List.map_nil, Array.getD_eq_getD_getElem?, List.getElem?_toArray, List.getElem?_cons_succ, List.getElem?_cons_zero, Option.getD_some]
    repeat (refine wpPure_step (fun K hK => ?_); go_simp; refine hK _ ?_; clear hK K)
    refine wpPure_nil ?_
    refine ⟨?_, ?_⟩
    · refine wpTree_loud fun K hK => ?_
      go_wp2
      rw [wpTree]
      simp only [opsAt, List.map_cons, List.map_nil, Array.getD_eq_getD_getElem?, List.getElem?_toArray, List.getElem?_cons_succ, List.getElem?_cons_zero, Option.getD_some]
      refine wpPure_nil ?_
      refine ⟨?_, ?_⟩
      · obtain ⟨p, pc, W2, hap, hown, hon, hgp⟩ := append_fresh_at ((v1.alloc (.cells #[] 5)).drew) v1.heap.size block_alloc a0 0 cap0 l0 (B0.out.ext ((HX1.out.alloc _).drew))
        have x2 : Ext v1 W2 := Ext.then ((Ext.refl v1).alloc _).drew hon (fun i hi e => by omega)
        have hsv : ((v1.alloc (.cells #[] 5)).drew).heap.size = v1.heap.size + 1 := by simp
        have hpl := owns_lt hown
        refine wpTree_loud fun K hK => ?_
        go_wp2_with (refine wpList_append_run rfl _ _ _ rfl _ _ _ _ rfl rfl hap ?_)
        rw [wpTree]
        simp only [opsAt, List.map_cons, List.map_nil, Array.getD_eq_getD_getElem?, List.getElem?_toArray, List.getElem?_cons_succ, List.getElem?_cons_zero, Option.getD_some]
        refine wpPure_nil ?_
        refine wpTree_loud fun K hK => ?_
        go_wp2
        rw [wpTree]
        simp only [opsAt, List.map_cons, List.map_nil, Array.getD_eq_getD_getElem?, List.getElem?_toArray, List.getElem?_cons_succ, List.getElem?_cons_zero, Option.getD_some]
        refine wpPure_nil ?_
        obtain ⟨q, qc, W4, hap2, hown2, hon2, hgq⟩ := append_fresh_at (W2.alloc (.cells #[] 5)) W2.heap.size block_alloc a0 0 cap0 l0 (B0.out.ext ((HX1.out.trans x2).alloc _))
        have x4 : Ext v1 W4 := Ext.then (x2.alloc _) hon2 (fun i hi e => by have := x2.size; omega)
        have hsz : (W2.alloc (.cells #[] 5)).heap.size = W2.heap.size + 1 := by simp
        refine wpTree_loud fun K hK => ?_
        go_wp2_with (refine wpList_append_run rfl _ _ _ rfl _ _ _ _ rfl rfl hap2 ?_)
        rw [wpTree]
        simp only [opsAt, List.map_cons, List.map_nil, Array.getD_eq_getD_getElem?, List.getElem?_toArray, List.getElem?_cons_succ, List.getElem?_cons_zero, Option.getD_some]
        repeat (refine wpPure_step (fun K hK => ?_); go_simp; refine hK _ ?_; clear hK K)
        refine wpPure_nil ?_
        go_wp2
        go_meet
        case rel =>
          exact ⟨p, pc, q, qc, rfl, rfl, owns_only (owns_only hown ((Ext.refl W2).alloc _) (fun x => x)) hon2 (by omega), hown2, by omega, by omega, by have := x2.size; omega, x4⟩
      · refine wpTree_loud fun K hK => ?_
        go_wp2
        rw [wpTree]
        simp only [opsAt, List.map_cons, List.map_nil, Array.getD_eq_getD_getElem?, List.getElem?_toArray, List.getElem?_cons_succ, List.getElem?_cons_zero, Option.getD_some]
        refine wpPure_nil ?_
        have hz2 : ((v1.alloc (.cells #[] 5)).alloc (.cells #[] 5)).heap[v1.heap.size]? = some (.cells #[] 5 (0, 0)) := by
          rw [heap_alloc_old _ _ (by simp)]; exact block_alloc
        have hz3 : ((v1.alloc (.cells #[] 5)).alloc (.cells #[] 5)).heap[v1.heap.size + 1]? = some (.cells #[] 5 (0, 0)) := by
          have := block_alloc (w := v1.alloc (.cells #[] 5)) (o := .cells #[] 5)
          rwa [show (v1.alloc (.cells #[] 5)).heap.size = v1.heap.size + 1 by simp] at this
        have hsz : (((v1.alloc (.cells #[] 5)).alloc (.cells #[] 5)).drew).heap.size = v1.heap.size + 2 := by simp
        obtain ⟨p, pc, W2, hap, hown, hon, hgp⟩ := append_fresh_at (((v1.alloc (.cells #[] 5)).alloc (.cells #[] 5)).drew) (v1.heap.size) hz2 a0 0 cap0 l0 (B0.out.ext (((HX1.out.alloc _).alloc _).drew))
        have x2 : Ext v1 W2 := Ext.then (((Ext.refl v1).alloc _).alloc _).drew hon (fun i hi e => by omega)
        have hpl := owns_lt hown
        have hs2 := hon.size
        refine wpTree_loud fun K hK => ?_
        go_wp2_with (refine wpList_append_run rfl _ _ _ rfl _ _ _ _ rfl rfl hap ?_)
        rw [wpTree]
        simp only [opsAt, List.map_cons, List.map_nil, Array.getD_eq_getD_getElem?, List.getElem?_toArray, List.getElem?_cons_succ, List.getElem?_cons_zero, Option.getD_some]
        refine wpPure_nil ?_
        obtain ⟨q, qc, W4, hap2, hown2, hon2, hgq⟩ := append_fresh_at W2 (v1.heap.size + 1) (hon.at hz3 (by omega)) a0 0 cap0 l0 (B0.out.ext (HX1.out.trans x2))
        have x4 : Ext v1 W4 := Ext.then x2 hon2 (fun i hi e => by omega)
        refine wpTree_loud fun K hK => ?_
        go_wp2_with (refine wpList_append_run rfl _ _ _ rfl _ _ _ _ rfl rfl hap2 ?_)
        rw [wpTree]
        simp only [opsAt, List.map_cons, List.map_nil, Array.getD_eq_getD_getElem?, List.getElem?_toArray, List.getElem?_cons_succ, List.getElem?_cons_zero, Option.getD_some]
        repeat (refine wpPure_step (fun K hK => ?_); go_simp; refine hK _ ?_; clear hK K)
        refine wpPure_nil ?_
        go_wp2
        go_meet
        case rel =>
          exact ⟨p, pc, q, qc, rfl, rfl, owns_only hown hon2 (by omega), hown2, by omega, by omega, by omega, x4⟩
        
    · refine wpTree_loud fun K hK => ?_
      go_wp2
      rw [wpTree]
      simp only [opsAt, List.map_cons, List.map_nil, Array.getD_eq_getD_getElem?, List.getElem?_toArray, List.getElem?_cons_succ, List.getElem?_cons_zero, Option.getD_some]
      refine wpPure_nil ?_
      refine wpTree_loud fun K hK => ?_
      go_wp2
      rw [wpTree]
      simp only [opsAt, List.map_cons, List.map_nil, Array.getD_eq_getD_getElem?, List.getElem?_toArray, List.getElem?_cons_succ, List.getElem?_cons_zero, Option.getD_some]
      refine wpPure_nil ?_
      have hz2 : ((v1.alloc (.cells #[] 5)).alloc (.cells #[] 5)).heap[v1.heap.size]? = some (.cells #[] 5 (0, 0)) := by
        rw [heap_alloc_old _ _ (by simp)]; exact block_alloc
      have hz3 : ((v1.alloc (.cells #[] 5)).alloc (.cells #[] 5)).heap[v1.heap.size + 1]? = some (.cells #[] 5 (0, 0)) := by
        have := block_alloc (w := v1.alloc (.cells #[] 5)) (o := .cells #[] 5)
        rwa [show (v1.alloc (.cells #[] 5)).heap.size = v1.heap.size + 1 by simp] at this
      have hsz : (((v1.alloc (.cells #[] 5)).alloc (.cells #[] 5)).drew).heap.size = v1.heap.size + 2 := by simp
      obtain ⟨p, pc, W2, hap, hown, hon, hgp⟩ := append_fresh_at (((v1.alloc (.cells #[] 5)).alloc (.cells #[] 5)).drew) (v1.heap.size + 1) hz3 a0 0 cap0 l0 (B0.out.ext (((HX1.out.alloc _).alloc _).drew))
      have x2 : Ext v1 W2 := Ext.then (((Ext.refl v1).alloc _).alloc _).drew hon (fun i hi e => by omega)
      have hpl := owns_lt hown
      have hs2 := hon.size
      refine wpTree_loud fun K hK => ?_
      go_wp2_with (refine wpList_append_run rfl _ _ _ rfl _ _ _ _ rfl rfl hap ?_)
      rw [wpTree]
      simp only [opsAt, List.map_cons, List.map_nil, Array.getD_eq_getD_getElem?, List.getElem?_toArray, List.getElem?_cons_succ, List.getElem?_cons_zero, Option.getD_some]
      refine wpPure_nil ?_
      obtain ⟨q, qc, W4, hap2, hown2, hon2, hgq⟩ := append_fresh_at W2 (v1.heap.size) (hon.at hz2 (by omega)) a0 0 cap0 l0 (B0.out.ext (HX1.out.trans x2))
      have x4 : Ext v1 W4 := Ext.then x2 hon2 (fun i hi e => by omega)
      refine wpTree_loud fun K hK => ?_
      go_wp2_with (refine wpList_append_run rfl _ _ _ rfl _ _ _ _ rfl rfl hap2 ?_)
      rw [wpTree]
      simp only [opsAt, List.map_cons, List.map_nil, Array.getD_eq_getD_getElem?, List.getElem?_toArray, List.getElem?_cons_succ, List.getElem?_cons_zero, Option.getD_some]
      repeat (refine wpPure_step (fun K hK => ?_); go_simp; refine hK _ ?_; clear hK K)
      refine wpPure_nil ?_
      go_wp2
      go_meet
      case rel =>
        exact ⟨p, pc, q, qc, rfl, rfl, owns_only hown hon2 (by omega), hown2, by omega, by omega, by omega, x4⟩
  case rest =>
    obtain ⟨p, pc, q, qc, rfl, rfl, hp, hq, hpq, hvp, hvq, hx1⟩ := hcut
    have X2 := HX1.out.trans hx1
    have P2 := hid (owns_bytes hp B0.out.byte (by omega)); have Q2 := hid (owns_bytes hq B0.out.byte (by omega))
    clear hp hq hx1
    go_wp2_with fail
    refine (add_zero_c fb p 0 pc a1 cap1 _ wc (by omega)).mono ?_
    rintro e v3 ⟨rfl, x3⟩
    go_wp2_with fail
    refine (add_zero_c fb p 0 pc a1 cap1 _ v3 (by omega)).mono ?_
    rintro e v4 ⟨rfl, x4⟩
    go_wp2_with fail
    refine (add_zero_c fb q 0 qc a1 cap1 _ v4 (by omega)).mono ?_
    rintro e v5 ⟨rfl, x5⟩
    have y5 := (x3.trans x4).trans x5
    have X5 := X2.trans y5
    go_wp2_with fail
    refine (same_c pc qc (P2.out.ext y5) (Q2.out.ext y5)).mono ?_
    rintro e v6 ⟨rfl, x6⟩
    rw [show decide (l0 = l0) = true by simp]
    have y6 := y5.trans x6
    have X6 := X5.trans x6
    clear x3 x4 x5 x6 X2 X5 y5
    have hmk := make_bytes 0 (by omega) (by omega) v6
    go_wp2
    go_loopw [68] (fun i wr => i = .int .i64 0 ∧ Ext v6 wr) (fun i _ => 0)
    case atStart => exact ⟨rfl, (Ext.refl v6).alloc _⟩
    case round =>
      obtain ⟨rfl, x7⟩ := hrel
      have y7 := y6.trans x7
      have X7 := X6.trans x7
      clear y6 X6 x7 hmk
      go_wp2_with fail
      refine (add_zero_c fb p 0 pc a2 cap2 _ wr (by omega)).mono ?_
      rintro e v8 ⟨rfl, x8⟩
      go_wp2_with fail
      refine (add_zero_c fb p 0 pc a1 cap1 _ v8 (by omega)).mono ?_
      rintro e v9 ⟨rfl, x9⟩
      go_wp2_with fail
      refine (add_zero_c fb q 0 qc _ 0 _ v9 (by omega)).mono ?_
      rintro e v10 ⟨rfl, x10⟩
      have z10 := (x8.trans x9).trans x10
      have y10 := y7.trans z10
      have X10 := X7.trans z10
      go_wp2_with fail
      refine (same_c pc qc (P2.out.ext y10) (Q2.out.ext y10)).mono ?_
      rintro e v11 ⟨rfl, x11⟩
      rw [show decide (l0 = l0) = true by simp]
      have X11 := X10.trans x11
      go_wp2_with fail
      refine (gfRuns_c v11).mono ?_
      rintro e v12 ⟨rfl, x12⟩
      have X12 := X11.trans x12
      go_wp2
      go_ret
      exact ⟨rfl, X12⟩

theorem gfTwice_c (a0 : Option Addr) (len0 cap0 : Nat) (z0 : List Int) (a1 : Option Addr) (len1 cap1 : Nat) (z1 : List Int) (a2 : Option Addr) (len2 cap2 : Nat) (z2 : List Int) (X Y : Int) (w : World)
    (w0 : IsRow .u8 w a0 len0 cap0 z0) (w1 : IsRow .u8 w a1 len1 cap1 z1) (w2 : IsRow .u8 w a2 len2 cap2 z2) (w3 : (Lit.int .u8 X).wf = true) (w4 : (Lit.int .u8 Y).wf = true) :
    Calls Try.prog 9 #[.slice a0 len0 cap0, .slice a1 len1 cap1, .slice a2 len2 cap2, .int .u8 X, .int .u8 Y] w fun e w' => e = .returned (.bool true) ∧ Ext w w' := by
  have bX := bounds_u8 w3
  have bY := bounds_u8 w4
  obtain ⟨x, rfl⟩ := Int.eq_ofNat_of_zero_le bX.1
  obtain ⟨y, rfl⟩ := Int.eq_ofNat_of_zero_le bY.1
  have h0 := w0.le
  have h1 := w1.le
  have h2 := w2.le
  obtain ⟨n, n0, n1, n2, n3, hmin⟩ := min4 len0 len1 len2
  have B0 := w0.bytes n n0 (by omega)
  have B1 := w1.bytes n n1 (by omega)
  have B2 := w2.bytes n n2 (by omega)
  by_cases hn : n = 0
  · exact gfTwice_1 a0 len0 cap0 a1 len1 cap1 a2 len2 cap2 x y n _ _ _ w B0 B1 B2 n3 n1 n2 (by omega) (by omega) (by omega) (by omega) (by omega) hmin hn
  · rcases B1.cells with h | ⟨b1, o1, rfl, _⟩
    · omega
    · rcases B2.cells with h | ⟨b2, o2, rfl, _⟩
      · omega
      · exact gfTwice_0 a0 len0 cap0 b1 o1 len1 cap1 b2 o2 len2 cap2 x y n _ _ _ w B0 B1 B2 n3 n1 n2 (by omega) (by omega) (by omega) (by omega) (by omega) hmin (by omega)
end Go.Proofs.Ytoafabbdoejegaa
