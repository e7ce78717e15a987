/-
  A frame of 135 slots, written out.
-/
import Derived.Test.YtfckhpkebdpkbaaPlayA1
import Derived.KernelRfl
import Derived.Test.YtfckhpkebdpkbaaPlayA2
import Derived.Test.YtfckhpkebdpkbaaRows
namespace Go.Bp
open Go
theorem arr_of (n : Nat) (t : Array Value) (h : t.size = n) : t = ((List.range n).map fun i => t.getD i undef).toArray := by
  subst h
  apply Array.ext
  · simp
  · intro i h1 h2
    simp [Array.getD, h1]
set_option maxRecDepth 100000 in
theorem lit_of (t : Array Value) (h : t.size = 135) : t = #[t.getD 0 undef, t.getD 1 undef, t.getD 2 undef, t.getD 3 undef, t.getD 4 undef, t.getD 5 undef, t.getD 6 undef, t.getD 7 undef, t.getD 8 undef, t.getD 9 undef, t.getD 10 undef, t.getD 11 undef, t.getD 12 undef, t.getD 13 undef, t.getD 14 undef, t.getD 15 undef, t.getD 16 undef, t.getD 17 undef, t.getD 18 undef, t.getD 19 undef, t.getD 20 undef, t.getD 21 undef, t.getD 22 undef, t.getD 23 undef, t.getD 24 undef, t.getD 25 undef, t.getD 26 undef, t.getD 27 undef, t.getD 28 undef, t.getD 29 undef, t.getD 30 undef, t.getD 31 undef, t.getD 32 undef, t.getD 33 undef, t.getD 34 undef, t.getD 35 undef, t.getD 36 undef, t.getD 37 undef, t.getD 38 undef, t.getD 39 undef, t.getD 40 undef, t.getD 41 undef, t.getD 42 undef, t.getD 43 undef, t.getD 44 undef, t.getD 45 undef, t.getD 46 undef, t.getD 47 undef, t.getD 48 undef, t.getD 49 undef, t.getD 50 undef, t.getD 51 undef, t.getD 52 undef, t.getD 53 undef, t.getD 54 undef, t.getD 55 undef, t.getD 56 undef, t.getD 57 undef, t.getD 58 undef, t.getD 59 undef, t.getD 60 undef, t.getD 61 undef, t.getD 62 undef, t.getD 63 undef, t.getD 64 undef, t.getD 65 undef, t.getD 66 undef, t.getD 67 undef, t.getD 68 undef, t.getD 69 undef, t.getD 70 undef, t.getD 71 undef, t.getD 72 undef, t.getD 73 undef, t.getD 74 undef, t.getD 75 undef, t.getD 76 undef, t.getD 77 undef, t.getD 78 undef, t.getD 79 undef, t.getD 80 undef, t.getD 81 undef, t.getD 82 undef, t.getD 83 undef, t.getD 84 undef, t.getD 85 undef, t.getD 86 undef, t.getD 87 undef, t.getD 88 undef, t.getD 89 undef, t.getD 90 undef, t.getD 91 undef, t.getD 92 undef, t.getD 93 undef, t.getD 94 undef, t.getD 95 undef, t.getD 96 undef, t.getD 97 undef, t.getD 98 undef, t.getD 99 undef, t.getD 100 undef, t.getD 101 undef, t.getD 102 undef, t.getD 103 undef, t.getD 104 undef, t.getD 105 undef, t.getD 106 undef, t.getD 107 undef, t.getD 108 undef, t.getD 109 undef, t.getD 110 undef, t.getD 111 undef, t.getD 112 undef, t.getD 113 undef, t.getD 114 undef, t.getD 115 undef, t.getD 116 undef, t.getD 117 undef, t.getD 118 undef, t.getD 119 undef, t.getD 120 undef, t.getD 121 undef, t.getD 122 undef, t.getD 123 undef, t.getD 124 undef, t.getD 125 undef, t.getD 126 undef, t.getD 127 undef, t.getD 128 undef, t.getD 129 undef, t.getD 130 undef, t.getD 131 undef, t.getD 132 undef, t.getD 133 undef, t.getD 134 undef] := (arr_of 135 t h).trans rfl
theorem litA {t : Array Value} {x1 : Value} {x2 : Value} {x5 : Value} (h : t.size = 135) (h1 : t[1]? = some x1) (h2 : t[2]? = some x2) (h5 : t[5]? = some x5) : ∃ g : Nat → Value, t = #[g 0, x1, x2, g 3, g 4, x5, g 6, g 7, g 8, g 9, g 10, g 11, g 12, g 13, g 14, g 15, g 16, g 17, g 18, g 19, g 20, g 21, g 22, g 23, g 24, g 25, g 26, g 27, g 28, g 29, g 30, g 31, g 32, g 33, g 34, g 35, g 36, g 37, g 38, g 39, g 40, g 41, g 42, g 43, g 44, g 45, g 46, g 47, g 48, g 49, g 50, g 51, g 52, g 53, g 54, g 55, g 56, g 57, g 58, g 59, g 60, g 61, g 62, g 63, g 64, g 65, g 66, g 67, g 68, g 69, g 70, g 71, g 72, g 73, g 74, g 75, g 76, g 77, g 78, g 79, g 80, g 81, g 82, g 83, g 84, g 85, g 86, g 87, g 88, g 89, g 90, g 91, g 92, g 93, g 94, g 95, g 96, g 97, g 98, g 99, g 100, g 101, g 102, g 103, g 104, g 105, g 106, g 107, g 108, g 109, g 110, g 111, g 112, g 113, g 114, g 115, g 116, g 117, g 118, g 119, g 120, g 121, g 122, g 123, g 124, g 125, g 126, g 127, g 128, g 129, g 130, g 131, g 132, g 133, g 134] := by
  have e := lit_of t h
  have e1 : t.getD 1 undef = x1 := by simp [Array.getD_eq_getD_getElem?, h1]
  have e2 : t.getD 2 undef = x2 := by simp [Array.getD_eq_getD_getElem?, h2]
  have e5 : t.getD 5 undef = x5 := by simp [Array.getD_eq_getD_getElem?, h5]
  rw [e1, e2, e5] at e
  exact ⟨fun i => t.getD i undef, e⟩
theorem litC {t : Array Value} {x1 : Value} {x2 : Value} {x6 : Value} {x7 : Value} {x8 : Value} {x9 : Value} (h : t.size = 135) (h1 : t[1]? = some x1) (h2 : t[2]? = some x2) (h6 : t[6]? = some x6) (h7 : t[7]? = some x7) (h8 : t[8]? = some x8) (h9 : t[9]? = some x9) : ∃ g : Nat → Value, t = #[g 0, x1, x2, g 3, g 4, g 5, x6, x7, x8, x9, g 10, g 11, g 12, g 13, g 14, g 15, g 16, g 17, g 18, g 19, g 20, g 21, g 22, g 23, g 24, g 25, g 26, g 27, g 28, g 29, g 30, g 31, g 32, g 33, g 34, g 35, g 36, g 37, g 38, g 39, g 40, g 41, g 42, g 43, g 44, g 45, g 46, g 47, g 48, g 49, g 50, g 51, g 52, g 53, g 54, g 55, g 56, g 57, g 58, g 59, g 60, g 61, g 62, g 63, g 64, g 65, g 66, g 67, g 68, g 69, g 70, g 71, g 72, g 73, g 74, g 75, g 76, g 77, g 78, g 79, g 80, g 81, g 82, g 83, g 84, g 85, g 86, g 87, g 88, g 89, g 90, g 91, g 92, g 93, g 94, g 95, g 96, g 97, g 98, g 99, g 100, g 101, g 102, g 103, g 104, g 105, g 106, g 107, g 108, g 109, g 110, g 111, g 112, g 113, g 114, g 115, g 116, g 117, g 118, g 119, g 120, g 121, g 122, g 123, g 124, g 125, g 126, g 127, g 128, g 129, g 130, g 131, g 132, g 133, g 134] := by
  have e := lit_of t h
  have e1 : t.getD 1 undef = x1 := by simp [Array.getD_eq_getD_getElem?, h1]
  have e2 : t.getD 2 undef = x2 := by simp [Array.getD_eq_getD_getElem?, h2]
  have e6 : t.getD 6 undef = x6 := by simp [Array.getD_eq_getD_getElem?, h6]
  have e7 : t.getD 7 undef = x7 := by simp [Array.getD_eq_getD_getElem?, h7]
  have e8 : t.getD 8 undef = x8 := by simp [Array.getD_eq_getD_getElem?, h8]
  have e9 : t.getD 9 undef = x9 := by simp [Array.getD_eq_getD_getElem?, h9]
  rw [e1, e2, e6, e7, e8, e9] at e
  exact ⟨fun i => t.getD i undef, e⟩
theorem litB {t : Array Value} {x1 : Value} {x2 : Value} {x6 : Value} {x7 : Value} {x10 : Value} {x11 : Value} {x13 : Value} (h : t.size = 135) (h1 : t[1]? = some x1) (h2 : t[2]? = some x2) (h6 : t[6]? = some x6) (h7 : t[7]? = some x7) (h10 : t[10]? = some x10) (h11 : t[11]? = some x11) (h13 : t[13]? = some x13) : ∃ g : Nat → Value, t = #[g 0, x1, x2, g 3, g 4, g 5, x6, x7, g 8, g 9, x10, x11, g 12, x13, g 14, g 15, g 16, g 17, g 18, g 19, g 20, g 21, g 22, g 23, g 24, g 25, g 26, g 27, g 28, g 29, g 30, g 31, g 32, g 33, g 34, g 35, g 36, g 37, g 38, g 39, g 40, g 41, g 42, g 43, g 44, g 45, g 46, g 47, g 48, g 49, g 50, g 51, g 52, g 53, g 54, g 55, g 56, g 57, g 58, g 59, g 60, g 61, g 62, g 63, g 64, g 65, g 66, g 67, g 68, g 69, g 70, g 71, g 72, g 73, g 74, g 75, g 76, g 77, g 78, g 79, g 80, g 81, g 82, g 83, g 84, g 85, g 86, g 87, g 88, g 89, g 90, g 91, g 92, g 93, g 94, g 95, g 96, g 97, g 98, g 99, g 100, g 101, g 102, g 103, g 104, g 105, g 106, g 107, g 108, g 109, g 110, g 111, g 112, g 113, g 114, g 115, g 116, g 117, g 118, g 119, g 120, g 121, g 122, g 123, g 124, g 125, g 126, g 127, g 128, g 129, g 130, g 131, g 132, g 133, g 134] := by
  have e := lit_of t h
  have e1 : t.getD 1 undef = x1 := by simp [Array.getD_eq_getD_getElem?, h1]
  have e2 : t.getD 2 undef = x2 := by simp [Array.getD_eq_getD_getElem?, h2]
  have e6 : t.getD 6 undef = x6 := by simp [Array.getD_eq_getD_getElem?, h6]
  have e7 : t.getD 7 undef = x7 := by simp [Array.getD_eq_getD_getElem?, h7]
  have e10 : t.getD 10 undef = x10 := by simp [Array.getD_eq_getD_getElem?, h10]
  have e11 : t.getD 11 undef = x11 := by simp [Array.getD_eq_getD_getElem?, h11]
  have e13 : t.getD 13 undef = x13 := by simp [Array.getD_eq_getD_getElem?, h13]
  rw [e1, e2, e6, e7, e10, e11, e13] at e
  exact ⟨fun i => t.getD i undef, e⟩
end Go.Bp

/- The law's body cut at its two calls of BandPlay. -/
namespace Go.Bp
open Go Go.Conc Go.Proofs

def frontN : Nat → Code → Code
  | 0, .seq a _ => a
  | n + 1, .seq a c => .seq a (frontN n c)
  | _, c => c
def dropN : Nat → Code → Code
  | 0, .seq _ c => c
  | n + 1, .seq _ c => dropN n c
  | _, c => c
def longN : Nat → Code → Bool
  | 0, .seq _ _ => true
  | n + 1, .seq _ c => longN n c
  | _, _ => false
theorem cut_front : ∀ (n : Nat) (c : Code), longN n c = true → Cut c (frontN n c) (dropN n c)
  | 0, .seq a c, _ => .one a c
  | n + 1, .seq _a c, h => .more (cut_front n c h)

noncomputable def body3 : Code := Try.f3.body.getD .skip
/-- behind the first call's region, and so on -/
noncomputable def lawA : Code := frontN 2 body3
noncomputable def lawA' : Code := dropN 2 body3
noncomputable def lawC0 : Code := dropN 5 body3
noncomputable def lawC : Code := frontN 2 lawC0
noncomputable def lawD : Code := dropN 2 lawC0
noncomputable def lawE0 : Code := dropN 0 lawD
noncomputable def lawB : Code := frontN 15 lawE0
noncomputable def lawF : Code := dropN 15 lawE0
noncomputable def lawG0 : Code := dropN 0 lawF
noncomputable def lawG : Code := frontN 7 lawG0
theorem lawG_rest : dropN 7 lawG0 = .ret := by kernel_rfl
theorem longA : longN 2 body3 = true := by kernel_rfl
theorem longC : longN 2 lawC0 = true := by kernel_rfl
theorem longB : longN 15 lawE0 = true := by kernel_rfl
theorem longG : longN 7 lawG0 = true := by kernel_rfl
end Go.Bp
