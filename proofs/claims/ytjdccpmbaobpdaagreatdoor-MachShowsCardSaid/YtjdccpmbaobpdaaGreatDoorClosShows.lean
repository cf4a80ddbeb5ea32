/-
  What the law can call, and what is told of that: each fact a theorem of its own.
-/
import Derived.Test.YtjdccpmbaobpdaaGreatDoorRows
import Derived.KernelRfl
import Derived.JoinedCond
import GoSem.ClaimGoes
namespace Go.Proofs.YtjdccpmbaobpdaaGreatDoor
namespace machShows
def clos : List FuncId := [3, 4, 7, 18, 38, 70, 109, 154, 202, 155, 156, 157, 203, 39, 71, 110, 158, 159, 204, 205, 206, 236, 207, 192, 228, 237, 242, 117, 269, 72, 111, 40, 73, 112, 160, 163, 208, 238, 246, 164, 209, 239, 16, 261, 14, 36, 65, 262, 263, 13, 240, 264, 289, 305, 322, 337, 348, 290, 306, 323, 338, 324, 300, 328, 325, 327, 340, 307, 341, 350, 344, 355, 359, 365, 368, 370, 376, 371, 372, 373, 374, 375, 377, 378, 379, 380, 381, 382, 369, 353, 354, 259, 342, 351, 352, 360, 362, 366, 137, 361, 367, 153, 343, 326, 339, 349, 308, 265, 291, 292, 309, 329, 310, 330, 331, 332, 334, 346, 357, 233, 257, 358, 363, 364, 311, 333, 345, 356, 210, 161, 162, 170, 74, 113, 114, 115, 116, 118, 75, 119, 165, 211, 212, 243, 241, 266, 267, 268, 293, 312, 213, 166, 171, 214, 167, 168, 215, 216, 217, 244, 186, 225, 218, 245, 219, 169, 220, 120, 41, 42, 76, 19, 43, 77, 121, 172, 44, 78, 122, 123, 173, 174, 177, 221, 178, 222, 247, 248, 249, 270, 271, 272, 294, 313, 296, 317, 335, 315, 316, 347, 314, 336, 319, 295, 297, 318, 250, 273, 298, 320, 274, 251, 181, 84, 79, 80, 81, 82, 83, 124, 125, 175, 126, 127, 176, 91, 134, 133, 179, 223, 180, 128, 182, 45, 20, 46, 85, 129, 183, 184, 47, 86, 87, 130, 185, 224, 252, 275, 299, 276, 277, 278, 279, 187, 188, 226, 253, 254, 227, 255, 88, 131, 190, 189, 21, 48, 49, 89, 132, 90, 92, 9, 26, 28, 56, 24, 52, 95, 135, 191, 136, 193, 8, 22, 50, 93, 23, 51, 94, 25, 53, 97, 147, 105, 96, 138, 144, 199, 139, 194, 140, 195, 196, 141, 197, 198, 229, 142, 143, 145, 146, 54, 27, 55, 98, 10, 29, 57, 58, 99, 148, 30, 59, 60, 101, 149, 200, 230, 231, 34, 232, 256, 64, 103, 37, 66, 67, 104, 106, 68, 69, 107, 108, 152, 234, 258, 280, 286, 304, 281, 301, 282, 283, 302, 303, 321, 284, 285, 287, 288, 235, 260, 100, 31, 61, 32, 62, 63, 102, 150, 201, 151, 33, 5, 15, 11, 12, 35, 6, 17]
theorem fuel_eq : 1 + (Tryz.prog.funcs.toList.map fun g => (Tryz.prog.leadsTo g).length + 1).sum = 1366 := by kernel_rfl
theorem via_eq : Tryz.prog.closureVia 1366 [3] [] = clos := by kernel_rfl
theorem clos_eq : Tryz.prog.closure 3 = clos := by
  unfold Program.closure
  rw [fuel_eq]
  exact via_eq
theorem inPlace_eq : Tryz.prog.inPlace 3 = Rows.machShowsRow.inPlace := by
  unfold Program.inPlace
  rw [clos_eq]
  as_aux_lemma => kernel_rfl
theorem unfollowed_eq : Tryz.prog.unfollowed 3 = true := by
  unfold Program.unfollowed
  rw [clos_eq]
  as_aux_lemma => kernel_rfl
theorem recurses_eq : Tryz.prog.recurses 3 = true := by
  unfold Program.recurses
  rw [unfollowed_eq, Bool.true_or]
theorem vars_eq : Tryz.prog.varsNamed 3 = Rows.machShowsRow.named := by
  unfold Program.varsNamed
  rw [clos_eq]
  as_aux_lemma => kernel_rfl
theorem goes_clos : (clos.any fun g => (Tryz.prog.funcs[g]?).any Func.goes) = false := by kernel_rfl
theorem goes_all : Tryz.prog.funcs.any Func.goes = false := by kernel_rfl
theorem goes_eq : Tryz.prog.goes 3 = false := by
  unfold Program.goes
  rw [clos_eq, goes_clos, goes_all, Bool.and_false, Bool.or_false]
theorem named_eq : Tryz.prog.funcNamed Rows.machShowsRow.func = some 3 := by kernel_rfl
theorem goesBy_eq : false = Rows.machShowsRow.goesBy Tryz.prog := by
  unfold OpenClaim.goesBy Program.goesAt Program.goesFrom
  rw [named_eq, Option.any_some, goes_eq, Bool.false_or]
  as_aux_lemma => kernel_rfl
theorem facts_eq : joinedFacts Tryz.prog 3 Tryz.f3 (OpenSpec.ofChange Rows.machShowsSpec).bare Rows.machShowsRow = true := by
  unfold joinedFacts
  rw [inPlace_eq, unfollowed_eq, recurses_eq, vars_eq]
  as_aux_lemma => kernel_rfl
end machShows
end Go.Proofs.YtjdccpmbaobpdaaGreatDoor
