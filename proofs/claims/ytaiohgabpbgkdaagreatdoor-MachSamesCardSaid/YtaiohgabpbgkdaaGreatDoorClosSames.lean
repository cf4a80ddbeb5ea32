/-
  What the law can call, and what is told of that: each fact a theorem of its own.
-/
import Derived.Test.YtaiohgabpbgkdaaGreatDoorRows
import Derived.KernelRfl
import Derived.JoinedCond
import GoSem.ClaimGoes
namespace Go.Proofs.YtaiohgabpbgkdaaGreatDoor
namespace machSames
def clos : List FuncId := [7, 22, 26, 16, 47, 102, 160, 218, 284, 219, 220, 221, 285, 48, 103, 161, 222, 223, 286, 287, 288, 323, 289, 308, 334, 324, 329, 168, 351, 104, 162, 49, 105, 163, 224, 227, 290, 325, 333, 228, 291, 326, 64, 343, 62, 127, 183, 344, 345, 61, 327, 346, 354, 360, 368, 381, 391, 355, 361, 369, 382, 370, 321, 374, 371, 373, 384, 362, 385, 393, 388, 398, 402, 408, 411, 413, 419, 414, 415, 416, 417, 418, 420, 421, 422, 423, 424, 425, 412, 396, 397, 158, 386, 394, 395, 403, 405, 409, 254, 404, 410, 306, 387, 372, 383, 392, 363, 347, 356, 357, 364, 375, 365, 376, 377, 378, 380, 390, 400, 99, 155, 401, 406, 407, 366, 379, 389, 399, 292, 225, 226, 234, 106, 164, 165, 166, 167, 169, 107, 170, 229, 293, 294, 330, 328, 348, 349, 350, 358, 367, 295, 230, 235, 296, 231, 232, 297, 298, 299, 331, 90, 147, 300, 332, 301, 233, 302, 171, 50, 51, 108, 17, 52, 109, 172, 236, 53, 110, 173, 174, 237, 238, 241, 303, 87, 145, 198, 199, 200, 269, 270, 271, 316, 336, 41, 88, 352, 338, 339, 359, 337, 353, 341, 317, 318, 340, 201, 272, 319, 342, 12, 202, 244, 116, 111, 112, 113, 114, 115, 175, 176, 239, 177, 178, 240, 122, 93, 150, 242, 304, 243, 179, 245, 54, 18, 55, 45, 95, 152, 153, 56, 117, 118, 42, 89, 146, 203, 273, 320, 274, 275, 276, 277, 91, 92, 148, 204, 205, 149, 206, 119, 180, 247, 246, 19, 57, 58, 120, 181, 121, 123, 28, 69, 71, 134, 67, 130, 189, 252, 307, 253, 309, 27, 66, 129, 188, 44, 94, 151, 68, 131, 157, 216, 217, 190, 255, 261, 313, 256, 310, 257, 279, 280, 258, 311, 312, 335, 259, 260, 262, 263, 132, 70, 133, 191, 31, 78, 135, 136, 192, 264, 79, 137, 138, 39, 13, 46, 96, 97, 76, 98, 154, 142, 195, 128, 184, 185, 248, 249, 186, 187, 250, 251, 305, 100, 156, 207, 213, 283, 208, 278, 209, 210, 281, 282, 322, 211, 212, 214, 215, 101, 159, 193, 80, 139, 81, 140, 141, 194, 265, 314, 266, 82, 23, 63, 32, 30, 77, 34, 33, 83, 84, 35]
theorem fuel_eq : 1 + (Tryz.prog.funcs.toList.map fun g => (Tryz.prog.leadsTo g).length + 1).sum = 1507 := by kernel_rfl
theorem via_eq : Tryz.prog.closureVia 1507 [7] [] = clos := by kernel_rfl
theorem clos_eq : Tryz.prog.closure 7 = clos := by
  unfold Program.closure
  rw [fuel_eq]
  exact via_eq
theorem inPlace_eq : Tryz.prog.inPlace 7 = Rows.machSamesRow.inPlace := by
  unfold Program.inPlace
  rw [clos_eq]
  as_aux_lemma => kernel_rfl
theorem unfollowed_eq : Tryz.prog.unfollowed 7 = true := by
  unfold Program.unfollowed
  rw [clos_eq]
  as_aux_lemma => kernel_rfl
theorem recurses_eq : Tryz.prog.recurses 7 = true := by
  unfold Program.recurses
  rw [unfollowed_eq, Bool.true_or]
theorem vars_eq : Tryz.prog.varsNamed 7 = Rows.machSamesRow.named := by
  unfold Program.varsNamed
  rw [clos_eq]
  as_aux_lemma => kernel_rfl
theorem goes_clos : (clos.any fun g => (Tryz.prog.funcs[g]?).any Func.goes) = false := by kernel_rfl
theorem goes_all : Tryz.prog.funcs.any Func.goes = false := by kernel_rfl
theorem goes_eq : Tryz.prog.goes 7 = false := by
  unfold Program.goes
  rw [clos_eq, goes_clos, goes_all, Bool.and_false, Bool.or_false]
theorem named_eq : Tryz.prog.funcNamed Rows.machSamesRow.func = some 7 := by kernel_rfl
theorem goesBy_eq : false = Rows.machSamesRow.goesBy Tryz.prog := by
  unfold OpenClaim.goesBy Program.goesAt Program.goesFrom
  rw [named_eq, Option.any_some, goes_eq, Bool.false_or]
  as_aux_lemma => kernel_rfl
theorem facts_eq : joinedFacts Tryz.prog 7 Tryz.f7 (OpenSpec.ofChange Rows.machSamesSpec).bare Rows.machSamesRow = true := by
  unfold joinedFacts
  rw [inPlace_eq, unfollowed_eq, recurses_eq, vars_eq]
  as_aux_lemma => kernel_rfl
end machSames
end Go.Proofs.YtaiohgabpbgkdaaGreatDoor
