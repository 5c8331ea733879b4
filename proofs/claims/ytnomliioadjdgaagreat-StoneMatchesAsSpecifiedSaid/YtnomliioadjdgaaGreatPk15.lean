/- The program for the machine: a table of its code, and that all of it is what the compiler makes. What the functions of patterns and sights compute: the program's, and the specification's. -/
import Derived.Test.YtnomliioadjdgaaGreatVmCode0
import Derived.Test.YtnomliioadjdgaaGreatVmCode1
import Derived.Test.YtnomliioadjdgaaGreatVmCode2
import Derived.Test.YtnomliioadjdgaaGreatPk13
import Derived.Test.YtnomliioadjdgaaGreatShelf
import Derived.Test.YtnomliioadjdgaaGreatPk7
import Derived.Test.YtnomliioadjdgaaGreatPk8
namespace Go.Proofs.YtnomliioadjdgaaGreat.Vm
open Go
def table : List (Nat × VFunc) := [(3, c3), (4, c4), (5, c5), (6, c6), (7, c7), (8, c8), (9, c9), (10, c10), (11, c11), (12, c12), (13, c13), (14, c14), (15, c15), (16, c16), (17, c17), (18, c18), (19, c19), (20, c20), (21, c21), (22, c22), (23, c23), (24, c24), (25, c25), (26, c26), (27, c27), (28, c28), (29, c29), (30, c30), (31, c31), (32, c32), (33, c33), (34, c34), (35, c35), (36, c36), (37, c37), (38, c38), (39, c39), (40, c40), (41, c41), (42, c42), (43, c43), (44, c44), (45, c45), (46, c46), (47, c47), (48, c48), (49, c49), (50, c50), (51, c51), (52, c52), (53, c53), (54, c54), (55, c55), (56, c56), (57, c57), (58, c58), (59, c59), (60, c60), (61, c61), (62, c62), (63, c63), (64, c64), (65, c65), (66, c66), (67, c67), (68, c68), (69, c69), (70, c70), (71, c71), (72, c72), (73, c73), (74, c74), (75, c75), (76, c76), (77, c77), (78, c78), (79, c79), (80, c80), (81, c81), (82, c82), (83, c83), (84, c84), (85, c85), (86, c86), (87, c87), (88, c88), (89, c89), (90, c90), (91, c91), (92, c92), (93, c93), (94, c94), (95, c95), (96, c96), (97, c97), (98, c98), (99, c99), (100, c100), (101, c101), (102, c102), (103, c103), (104, c104), (105, c105), (106, c106), (107, c107), (108, c108), (109, c109), (110, c110), (111, c111), (112, c112), (113, c113), (114, c114), (115, c115), (116, c116), (117, c117), (118, c118), (119, c119), (120, c120), (121, c121), (122, c122), (123, c123), (124, c124), (125, c125), (126, c126), (127, c127), (128, c128), (129, c129), (130, c130), (131, c131), (132, c132), (133, c133), (134, c134), (135, c135), (136, c136), (137, c137), (138, c138), (139, c139), (140, c140), (141, c141), (142, c142), (143, c143), (144, c144), (145, c145), (146, c146), (147, c147), (148, c148), (149, c149), (150, c150), (151, c151), (152, c152), (153, c153), (154, c154), (155, c155), (156, c156), (157, c157), (158, c158), (159, c159), (160, c160), (161, c161), (162, c162), (163, c163), (164, c164), (165, c165)]
def sharedL : List Nat := [78, 79, 81, 82, 83, 87, 88, 89, 95, 119, 138, 141, 142, 143, 144, 145, 146, 148, 149, 158, 160, 161, 162, 165]
def G : Prog := { func := fun f => (table.find? (fun p => p.1 == f)).map (·.2), shared := fun f => sharedL.contains f, ext := fun _ => none, extRun := fun f xs H => if f = 83 then sortRun xs H else none }
theorem all_nil {α : Type} {p : α → Prop} : ∀ a ∈ ([] : List α), p a := fun a h => by simp at h
theorem all_cons {α : Type} {p : α → Prop} {a : α} {l : List α} (h : p a) (hs : ∀ b ∈ l, p b) : ∀ b ∈ a :: l, p b := fun b hb => by
  rcases List.mem_cons.1 hb with rfl | h1
  · exact h
  · exact hs b h1
theorem table_ok : ∀ p ∈ table, ∃ fn Z, Tryz.prog.funcs[p.1]? = some fn ∧ compileFn Tryz.prog Z fn = some p.2 :=
  all_cons ⟨_, _, Tryz.func3, k3⟩ <|
  all_cons ⟨_, _, Tryz.func4, k4⟩ <|
  all_cons ⟨_, _, Tryz.func5, k5⟩ <|
  all_cons ⟨_, _, Tryz.func6, k6⟩ <|
  all_cons ⟨_, _, Tryz.func7, k7⟩ <|
  all_cons ⟨_, _, Tryz.func8, k8⟩ <|
  all_cons ⟨_, _, Tryz.func9, k9⟩ <|
  all_cons ⟨_, _, Tryz.func10, k10⟩ <|
  all_cons ⟨_, _, Tryz.func11, k11⟩ <|
  all_cons ⟨_, _, Tryz.func12, k12⟩ <|
  all_cons ⟨_, _, Tryz.func13, k13⟩ <|
  all_cons ⟨_, _, Tryz.func14, k14⟩ <|
  all_cons ⟨_, _, Tryz.func15, k15⟩ <|
  all_cons ⟨_, _, Tryz.func16, k16⟩ <|
  all_cons ⟨_, _, Tryz.func17, k17⟩ <|
  all_cons ⟨_, _, Tryz.func18, k18⟩ <|
  all_cons ⟨_, _, Tryz.func19, k19⟩ <|
  all_cons ⟨_, _, Tryz.func20, k20⟩ <|
  all_cons ⟨_, _, Tryz.func21, k21⟩ <|
  all_cons ⟨_, _, Tryz.func22, k22⟩ <|
  all_cons ⟨_, _, Tryz.func23, k23⟩ <|
  all_cons ⟨_, _, Tryz.func24, k24⟩ <|
  all_cons ⟨_, _, Tryz.func25, k25⟩ <|
  all_cons ⟨_, _, Tryz.func26, k26⟩ <|
  all_cons ⟨_, _, Tryz.func27, k27⟩ <|
  all_cons ⟨_, _, Tryz.func28, k28⟩ <|
  all_cons ⟨_, _, Tryz.func29, k29⟩ <|
  all_cons ⟨_, _, Tryz.func30, k30⟩ <|
  all_cons ⟨_, _, Tryz.func31, k31⟩ <|
  all_cons ⟨_, _, Tryz.func32, k32⟩ <|
  all_cons ⟨_, _, Tryz.func33, k33⟩ <|
  all_cons ⟨_, _, Tryz.func34, k34⟩ <|
  all_cons ⟨_, _, Tryz.func35, k35⟩ <|
  all_cons ⟨_, _, Tryz.func36, k36⟩ <|
  all_cons ⟨_, _, Tryz.func37, k37⟩ <|
  all_cons ⟨_, _, Tryz.func38, k38⟩ <|
  all_cons ⟨_, _, Tryz.func39, k39⟩ <|
  all_cons ⟨_, _, Tryz.func40, k40⟩ <|
  all_cons ⟨_, _, Tryz.func41, k41⟩ <|
  all_cons ⟨_, _, Tryz.func42, k42⟩ <|
  all_cons ⟨_, _, Tryz.func43, k43⟩ <|
  all_cons ⟨_, _, Tryz.func44, k44⟩ <|
  all_cons ⟨_, _, Tryz.func45, k45⟩ <|
  all_cons ⟨_, _, Tryz.func46, k46⟩ <|
  all_cons ⟨_, _, Tryz.func47, k47⟩ <|
  all_cons ⟨_, _, Tryz.func48, k48⟩ <|
  all_cons ⟨_, _, Tryz.func49, k49⟩ <|
  all_cons ⟨_, _, Tryz.func50, k50⟩ <|
  all_cons ⟨_, _, Tryz.func51, k51⟩ <|
  all_cons ⟨_, _, Tryz.func52, k52⟩ <|
  all_cons ⟨_, _, Tryz.func53, k53⟩ <|
  all_cons ⟨_, _, Tryz.func54, k54⟩ <|
  all_cons ⟨_, _, Tryz.func55, k55⟩ <|
  all_cons ⟨_, _, Tryz.func56, k56⟩ <|
  all_cons ⟨_, _, Tryz.func57, k57⟩ <|
  all_cons ⟨_, _, Tryz.func58, k58⟩ <|
  all_cons ⟨_, _, Tryz.func59, k59⟩ <|
  all_cons ⟨_, _, Tryz.func60, k60⟩ <|
  all_cons ⟨_, _, Tryz.func61, k61⟩ <|
  all_cons ⟨_, _, Tryz.func62, k62⟩ <|
  all_cons ⟨_, _, Tryz.func63, k63⟩ <|
  all_cons ⟨_, _, Tryz.func64, k64⟩ <|
  all_cons ⟨_, _, Tryz.func65, k65⟩ <|
  all_cons ⟨_, _, Tryz.func66, k66⟩ <|
  all_cons ⟨_, _, Tryz.func67, k67⟩ <|
  all_cons ⟨_, _, Tryz.func68, k68⟩ <|
  all_cons ⟨_, _, Tryz.func69, k69⟩ <|
  all_cons ⟨_, _, Tryz.func70, k70⟩ <|
  all_cons ⟨_, _, Tryz.func71, k71⟩ <|
  all_cons ⟨_, _, Tryz.func72, k72⟩ <|
  all_cons ⟨_, _, Tryz.func73, k73⟩ <|
  all_cons ⟨_, _, Tryz.func74, k74⟩ <|
  all_cons ⟨_, _, Tryz.func75, k75⟩ <|
  all_cons ⟨_, _, Tryz.func76, k76⟩ <|
  all_cons ⟨_, _, Tryz.func77, k77⟩ <|
  all_cons ⟨_, _, Tryz.func78, k78⟩ <|
  all_cons ⟨_, _, Tryz.func79, k79⟩ <|
  all_cons ⟨_, _, Tryz.func80, k80⟩ <|
  all_cons ⟨_, _, Tryz.func81, k81⟩ <|
  all_cons ⟨_, _, Tryz.func82, k82⟩ <|
  all_cons ⟨_, _, Tryz.func83, k83⟩ <|
  all_cons ⟨_, _, Tryz.func84, k84⟩ <|
  all_cons ⟨_, _, Tryz.func85, k85⟩ <|
  all_cons ⟨_, _, Tryz.func86, k86⟩ <|
  all_cons ⟨_, _, Tryz.func87, k87⟩ <|
  all_cons ⟨_, _, Tryz.func88, k88⟩ <|
  all_cons ⟨_, _, Tryz.func89, k89⟩ <|
  all_cons ⟨_, _, Tryz.func90, k90⟩ <|
  all_cons ⟨_, _, Tryz.func91, k91⟩ <|
  all_cons ⟨_, _, Tryz.func92, k92⟩ <|
  all_cons ⟨_, _, Tryz.func93, k93⟩ <|
  all_cons ⟨_, _, Tryz.func94, k94⟩ <|
  all_cons ⟨_, _, Tryz.func95, k95⟩ <|
  all_cons ⟨_, _, Tryz.func96, k96⟩ <|
  all_cons ⟨_, _, Tryz.func97, k97⟩ <|
  all_cons ⟨_, _, Tryz.func98, k98⟩ <|
  all_cons ⟨_, _, Tryz.func99, k99⟩ <|
  all_cons ⟨_, _, Tryz.func100, k100⟩ <|
  all_cons ⟨_, _, Tryz.func101, k101⟩ <|
  all_cons ⟨_, _, Tryz.func102, k102⟩ <|
  all_cons ⟨_, _, Tryz.func103, k103⟩ <|
  all_cons ⟨_, _, Tryz.func104, k104⟩ <|
  all_cons ⟨_, _, Tryz.func105, k105⟩ <|
  all_cons ⟨_, _, Tryz.func106, k106⟩ <|
  all_cons ⟨_, _, Tryz.func107, k107⟩ <|
  all_cons ⟨_, _, Tryz.func108, k108⟩ <|
  all_cons ⟨_, _, Tryz.func109, k109⟩ <|
  all_cons ⟨_, _, Tryz.func110, k110⟩ <|
  all_cons ⟨_, _, Tryz.func111, k111⟩ <|
  all_cons ⟨_, _, Tryz.func112, k112⟩ <|
  all_cons ⟨_, _, Tryz.func113, k113⟩ <|
  all_cons ⟨_, _, Tryz.func114, k114⟩ <|
  all_cons ⟨_, _, Tryz.func115, k115⟩ <|
  all_cons ⟨_, _, Tryz.func116, k116⟩ <|
  all_cons ⟨_, _, Tryz.func117, k117⟩ <|
  all_cons ⟨_, _, Tryz.func118, k118⟩ <|
  all_cons ⟨_, _, Tryz.func119, k119⟩ <|
  all_cons ⟨_, _, Tryz.func120, k120⟩ <|
  all_cons ⟨_, _, Tryz.func121, k121⟩ <|
  all_cons ⟨_, _, Tryz.func122, k122⟩ <|
  all_cons ⟨_, _, Tryz.func123, k123⟩ <|
  all_cons ⟨_, _, Tryz.func124, k124⟩ <|
  all_cons ⟨_, _, Tryz.func125, k125⟩ <|
  all_cons ⟨_, _, Tryz.func126, k126⟩ <|
  all_cons ⟨_, _, Tryz.func127, k127⟩ <|
  all_cons ⟨_, _, Tryz.func128, k128⟩ <|
  all_cons ⟨_, _, Tryz.func129, k129⟩ <|
  all_cons ⟨_, _, Tryz.func130, k130⟩ <|
  all_cons ⟨_, _, Tryz.func131, k131⟩ <|
  all_cons ⟨_, _, Tryz.func132, k132⟩ <|
  all_cons ⟨_, _, Tryz.func133, k133⟩ <|
  all_cons ⟨_, _, Tryz.func134, k134⟩ <|
  all_cons ⟨_, _, Tryz.func135, k135⟩ <|
  all_cons ⟨_, _, Tryz.func136, k136⟩ <|
  all_cons ⟨_, _, Tryz.func137, k137⟩ <|
  all_cons ⟨_, _, Tryz.func138, k138⟩ <|
  all_cons ⟨_, _, Tryz.func139, k139⟩ <|
  all_cons ⟨_, _, Tryz.func140, k140⟩ <|
  all_cons ⟨_, _, Tryz.func141, k141⟩ <|
  all_cons ⟨_, _, Tryz.func142, k142⟩ <|
  all_cons ⟨_, _, Tryz.func143, k143⟩ <|
  all_cons ⟨_, _, Tryz.func144, k144⟩ <|
  all_cons ⟨_, _, Tryz.func145, k145⟩ <|
  all_cons ⟨_, _, Tryz.func146, k146⟩ <|
  all_cons ⟨_, _, Tryz.func147, k147⟩ <|
  all_cons ⟨_, _, Tryz.func148, k148⟩ <|
  all_cons ⟨_, _, Tryz.func149, k149⟩ <|
  all_cons ⟨_, _, Tryz.func150, k150⟩ <|
  all_cons ⟨_, _, Tryz.func151, k151⟩ <|
  all_cons ⟨_, _, Tryz.func152, k152⟩ <|
  all_cons ⟨_, _, Tryz.func153, k153⟩ <|
  all_cons ⟨_, _, Tryz.func154, k154⟩ <|
  all_cons ⟨_, _, Tryz.func155, k155⟩ <|
  all_cons ⟨_, _, Tryz.func156, k156⟩ <|
  all_cons ⟨_, _, Tryz.func157, k157⟩ <|
  all_cons ⟨_, _, Tryz.func158, k158⟩ <|
  all_cons ⟨_, _, Tryz.func159, k159⟩ <|
  all_cons ⟨_, _, Tryz.func160, k160⟩ <|
  all_cons ⟨_, _, Tryz.func161, k161⟩ <|
  all_cons ⟨_, _, Tryz.func162, k162⟩ <|
  all_cons ⟨_, _, Tryz.func163, k163⟩ <|
  all_cons ⟨_, _, Tryz.func164, k164⟩ <|
  all_cons ⟨_, _, Tryz.func165, k165⟩ <|
  all_nil
theorem gOk : GOk Tryz.prog G :=
  ⟨by kernel_rfl, fun f vf h => by
    simp only [G, Option.map_eq_some_iff] at h
    obtain ⟨p, hp, rfl⟩ := h
    have h1 := List.mem_of_find?_eq_some hp
    have h2 := List.find?_some hp
    simp at h2
    have := table_ok p h1
    rwa [h2] at this, fun f g ps r h => by simp [G] at h, fun f xs H r H1 h => by
    simp only [G] at h
    split at h
    · rename_i hf
      subst hf
      exact sort_runOk ⟨_, Tryz.func83, by kernel_rfl, by kernel_rfl⟩ Tryz.slices_Sort_int h
    · simp at h⟩
theorem g3 : G.func 3 = some c3 := by kernel_rfl
theorem g4 : G.func 4 = some c4 := by kernel_rfl
theorem g5 : G.func 5 = some c5 := by kernel_rfl
theorem g6 : G.func 6 = some c6 := by kernel_rfl
theorem g7 : G.func 7 = some c7 := by kernel_rfl
theorem g8 : G.func 8 = some c8 := by kernel_rfl
theorem g9 : G.func 9 = some c9 := by kernel_rfl
theorem g10 : G.func 10 = some c10 := by kernel_rfl
theorem g11 : G.func 11 = some c11 := by kernel_rfl
theorem g12 : G.func 12 = some c12 := by kernel_rfl
theorem g13 : G.func 13 = some c13 := by kernel_rfl
theorem g14 : G.func 14 = some c14 := by kernel_rfl
theorem g15 : G.func 15 = some c15 := by kernel_rfl
theorem g16 : G.func 16 = some c16 := by kernel_rfl
theorem g17 : G.func 17 = some c17 := by kernel_rfl
theorem g18 : G.func 18 = some c18 := by kernel_rfl
theorem g19 : G.func 19 = some c19 := by kernel_rfl
theorem g20 : G.func 20 = some c20 := by kernel_rfl
theorem g21 : G.func 21 = some c21 := by kernel_rfl
theorem g22 : G.func 22 = some c22 := by kernel_rfl
theorem g23 : G.func 23 = some c23 := by kernel_rfl
theorem g24 : G.func 24 = some c24 := by kernel_rfl
theorem g25 : G.func 25 = some c25 := by kernel_rfl
theorem g26 : G.func 26 = some c26 := by kernel_rfl
theorem g27 : G.func 27 = some c27 := by kernel_rfl
theorem g28 : G.func 28 = some c28 := by kernel_rfl
theorem g29 : G.func 29 = some c29 := by kernel_rfl
theorem g30 : G.func 30 = some c30 := by kernel_rfl
theorem g31 : G.func 31 = some c31 := by kernel_rfl
theorem g32 : G.func 32 = some c32 := by kernel_rfl
theorem g33 : G.func 33 = some c33 := by kernel_rfl
theorem g34 : G.func 34 = some c34 := by kernel_rfl
theorem g35 : G.func 35 = some c35 := by kernel_rfl
theorem g36 : G.func 36 = some c36 := by kernel_rfl
theorem g37 : G.func 37 = some c37 := by kernel_rfl
theorem g38 : G.func 38 = some c38 := by kernel_rfl
theorem g39 : G.func 39 = some c39 := by kernel_rfl
theorem g40 : G.func 40 = some c40 := by kernel_rfl
theorem g41 : G.func 41 = some c41 := by kernel_rfl
theorem g42 : G.func 42 = some c42 := by kernel_rfl
theorem g43 : G.func 43 = some c43 := by kernel_rfl
theorem g44 : G.func 44 = some c44 := by kernel_rfl
theorem g45 : G.func 45 = some c45 := by kernel_rfl
theorem g46 : G.func 46 = some c46 := by kernel_rfl
theorem g47 : G.func 47 = some c47 := by kernel_rfl
theorem g48 : G.func 48 = some c48 := by kernel_rfl
theorem g49 : G.func 49 = some c49 := by kernel_rfl
theorem g50 : G.func 50 = some c50 := by kernel_rfl
theorem g51 : G.func 51 = some c51 := by kernel_rfl
theorem g52 : G.func 52 = some c52 := by kernel_rfl
theorem g53 : G.func 53 = some c53 := by kernel_rfl
theorem g54 : G.func 54 = some c54 := by kernel_rfl
theorem g55 : G.func 55 = some c55 := by kernel_rfl
theorem g56 : G.func 56 = some c56 := by kernel_rfl
theorem g57 : G.func 57 = some c57 := by kernel_rfl
theorem g58 : G.func 58 = some c58 := by kernel_rfl
theorem g59 : G.func 59 = some c59 := by kernel_rfl
theorem g60 : G.func 60 = some c60 := by kernel_rfl
theorem g61 : G.func 61 = some c61 := by kernel_rfl
theorem g62 : G.func 62 = some c62 := by kernel_rfl
theorem g63 : G.func 63 = some c63 := by kernel_rfl
theorem g64 : G.func 64 = some c64 := by kernel_rfl
theorem g65 : G.func 65 = some c65 := by kernel_rfl
theorem g66 : G.func 66 = some c66 := by kernel_rfl
theorem g67 : G.func 67 = some c67 := by kernel_rfl
theorem g68 : G.func 68 = some c68 := by kernel_rfl
theorem g69 : G.func 69 = some c69 := by kernel_rfl
theorem g70 : G.func 70 = some c70 := by kernel_rfl
theorem g71 : G.func 71 = some c71 := by kernel_rfl
theorem g72 : G.func 72 = some c72 := by kernel_rfl
theorem g73 : G.func 73 = some c73 := by kernel_rfl
theorem g74 : G.func 74 = some c74 := by kernel_rfl
theorem g75 : G.func 75 = some c75 := by kernel_rfl
theorem g76 : G.func 76 = some c76 := by kernel_rfl
theorem g77 : G.func 77 = some c77 := by kernel_rfl
theorem g78 : G.func 78 = some c78 := by kernel_rfl
theorem g79 : G.func 79 = some c79 := by kernel_rfl
theorem g80 : G.func 80 = some c80 := by kernel_rfl
theorem g81 : G.func 81 = some c81 := by kernel_rfl
theorem g82 : G.func 82 = some c82 := by kernel_rfl
theorem g83 : G.func 83 = some c83 := by kernel_rfl
theorem g84 : G.func 84 = some c84 := by kernel_rfl
theorem g85 : G.func 85 = some c85 := by kernel_rfl
theorem g86 : G.func 86 = some c86 := by kernel_rfl
theorem g87 : G.func 87 = some c87 := by kernel_rfl
theorem g88 : G.func 88 = some c88 := by kernel_rfl
theorem g89 : G.func 89 = some c89 := by kernel_rfl
theorem g90 : G.func 90 = some c90 := by kernel_rfl
theorem g91 : G.func 91 = some c91 := by kernel_rfl
theorem g92 : G.func 92 = some c92 := by kernel_rfl
theorem g93 : G.func 93 = some c93 := by kernel_rfl
theorem g94 : G.func 94 = some c94 := by kernel_rfl
theorem g95 : G.func 95 = some c95 := by kernel_rfl
theorem g96 : G.func 96 = some c96 := by kernel_rfl
theorem g97 : G.func 97 = some c97 := by kernel_rfl
theorem g98 : G.func 98 = some c98 := by kernel_rfl
theorem g99 : G.func 99 = some c99 := by kernel_rfl
theorem g100 : G.func 100 = some c100 := by kernel_rfl
theorem g101 : G.func 101 = some c101 := by kernel_rfl
theorem g102 : G.func 102 = some c102 := by kernel_rfl
theorem g103 : G.func 103 = some c103 := by kernel_rfl
theorem g104 : G.func 104 = some c104 := by kernel_rfl
theorem g105 : G.func 105 = some c105 := by kernel_rfl
theorem g106 : G.func 106 = some c106 := by kernel_rfl
theorem g107 : G.func 107 = some c107 := by kernel_rfl
theorem g108 : G.func 108 = some c108 := by kernel_rfl
theorem g109 : G.func 109 = some c109 := by kernel_rfl
theorem g110 : G.func 110 = some c110 := by kernel_rfl
theorem g111 : G.func 111 = some c111 := by kernel_rfl
theorem g112 : G.func 112 = some c112 := by kernel_rfl
theorem g113 : G.func 113 = some c113 := by kernel_rfl
theorem g114 : G.func 114 = some c114 := by kernel_rfl
theorem g115 : G.func 115 = some c115 := by kernel_rfl
theorem g116 : G.func 116 = some c116 := by kernel_rfl
theorem g117 : G.func 117 = some c117 := by kernel_rfl
theorem g118 : G.func 118 = some c118 := by kernel_rfl
theorem g119 : G.func 119 = some c119 := by kernel_rfl
theorem g120 : G.func 120 = some c120 := by kernel_rfl
theorem g121 : G.func 121 = some c121 := by kernel_rfl
theorem g122 : G.func 122 = some c122 := by kernel_rfl
theorem g123 : G.func 123 = some c123 := by kernel_rfl
theorem g124 : G.func 124 = some c124 := by kernel_rfl
theorem g125 : G.func 125 = some c125 := by kernel_rfl
theorem g126 : G.func 126 = some c126 := by kernel_rfl
theorem g127 : G.func 127 = some c127 := by kernel_rfl
theorem g128 : G.func 128 = some c128 := by kernel_rfl
theorem g129 : G.func 129 = some c129 := by kernel_rfl
theorem g130 : G.func 130 = some c130 := by kernel_rfl
theorem g131 : G.func 131 = some c131 := by kernel_rfl
theorem g132 : G.func 132 = some c132 := by kernel_rfl
theorem g133 : G.func 133 = some c133 := by kernel_rfl
theorem g134 : G.func 134 = some c134 := by kernel_rfl
theorem g135 : G.func 135 = some c135 := by kernel_rfl
theorem g136 : G.func 136 = some c136 := by kernel_rfl
theorem g137 : G.func 137 = some c137 := by kernel_rfl
theorem g138 : G.func 138 = some c138 := by kernel_rfl
theorem g139 : G.func 139 = some c139 := by kernel_rfl
theorem g140 : G.func 140 = some c140 := by kernel_rfl
theorem g141 : G.func 141 = some c141 := by kernel_rfl
theorem g142 : G.func 142 = some c142 := by kernel_rfl
theorem g143 : G.func 143 = some c143 := by kernel_rfl
theorem g144 : G.func 144 = some c144 := by kernel_rfl
theorem g145 : G.func 145 = some c145 := by kernel_rfl
theorem g146 : G.func 146 = some c146 := by kernel_rfl
theorem g147 : G.func 147 = some c147 := by kernel_rfl
theorem g148 : G.func 148 = some c148 := by kernel_rfl
theorem g149 : G.func 149 = some c149 := by kernel_rfl
theorem g150 : G.func 150 = some c150 := by kernel_rfl
theorem g151 : G.func 151 = some c151 := by kernel_rfl
theorem g152 : G.func 152 = some c152 := by kernel_rfl
theorem g153 : G.func 153 = some c153 := by kernel_rfl
theorem g154 : G.func 154 = some c154 := by kernel_rfl
theorem g155 : G.func 155 = some c155 := by kernel_rfl
theorem g156 : G.func 156 = some c156 := by kernel_rfl
theorem g157 : G.func 157 = some c157 := by kernel_rfl
theorem g158 : G.func 158 = some c158 := by kernel_rfl
theorem g159 : G.func 159 = some c159 := by kernel_rfl
theorem g160 : G.func 160 = some c160 := by kernel_rfl
theorem g161 : G.func 161 = some c161 := by kernel_rfl
theorem g162 : G.func 162 = some c162 := by kernel_rfl
theorem g163 : G.func 163 = some c163 := by kernel_rfl
theorem g164 : G.func 164 = some c164 := by kernel_rfl
theorem g165 : G.func 165 = some c165 := by kernel_rfl
theorem ext_none (f : Nat) : G.ext f = none := rfl
end Go.Proofs.YtnomliioadjdgaaGreat.Vm

namespace Go.Proofs.YtnomliioadjdgaaGreat.Vm
open Go
set_option linter.unusedSimpArgs false
set_option linter.unusedVariables false
set_option maxHeartbeats 4000000

structure Span where
  lo : Int
  hi : Int
  deriving Inhabited
@[simp] def Span.cells (s : Span) : List PV := [.int .i64 s.lo, .int .i64 s.hi]
@[simp] theorem Span.eta (s : Span) : (⟨s.lo, s.hi⟩ : Span) = s := rfl
@[simp] theorem asF_Span (x0 : Int) (x1 : Int) (P : Span → Prop) {u} : asF Span.cells [.pure (.int .i64 x0), .pure (.int .i64 x1)] P u ↔ P ⟨x0, x1⟩ := by
  constructor
  · rintro ⟨a, h, hp⟩
    simp [Span.cells] at h
    obtain ⟨rfl, rfl⟩ := h
    exact hp
  · intro h; exact ⟨_, rfl, h⟩
@[simp] theorem putIn_Span {l : List Span} {i : Nat} (x0 : Int) (x1 : Int) (h : i < l.length) : putIn (.cells true (rowOf Span.cells l)) 2 (i * 2) [.pure (.int .i64 x0), .pure (.int .i64 x1)] = some (.cells true (rowOf Span.cells (l.set i ⟨x0, x1⟩))) := putIn_rowG (f := Span.cells) (a := ⟨x0, x1⟩) (fun _ => rfl) (fun _ => by first | rfl | simp) (by decide) h
structure Box where
  x : Span
  y : Span
  deriving Inhabited
@[simp] def Box.cells (s : Box) : List PV := [.int .i64 s.x.lo, .int .i64 s.x.hi, .int .i64 s.y.lo, .int .i64 s.y.hi]
@[simp] theorem Box.eta (s : Box) : (⟨s.x, s.y⟩ : Box) = s := rfl
@[simp] theorem asF_Box (x0 : Int) (x1 : Int) (x2 : Int) (x3 : Int) (P : Box → Prop) {u} : asF Box.cells [.pure (.int .i64 x0), .pure (.int .i64 x1), .pure (.int .i64 x2), .pure (.int .i64 x3)] P u ↔ P ⟨⟨x0, x1⟩, ⟨x2, x3⟩⟩ := by
  constructor
  · rintro ⟨a, h, hp⟩
    simp [Box.cells] at h
    obtain ⟨rfl, rfl, rfl, rfl⟩ := h
    exact hp
  · intro h; exact ⟨_, rfl, h⟩
@[simp] theorem putIn_Box {l : List Box} {i : Nat} (x0 : Int) (x1 : Int) (x2 : Int) (x3 : Int) (h : i < l.length) : putIn (.cells true (rowOf Box.cells l)) 4 (i * 4) [.pure (.int .i64 x0), .pure (.int .i64 x1), .pure (.int .i64 x2), .pure (.int .i64 x3)] = some (.cells true (rowOf Box.cells (l.set i ⟨⟨x0, x1⟩, ⟨x2, x3⟩⟩))) := putIn_rowG (f := Box.cells) (a := ⟨⟨x0, x1⟩, ⟨x2, x3⟩⟩) (fun _ => rfl) (fun _ => by first | rfl | simp) (by decide) h
structure Sight where
  id : Int
  year : Int
  box : Box
  letters : List UInt8
  height : Span
  deriving Inhabited
@[simp] def Sight.cells (s : Sight) : List PV := [.int .i64 s.id, .int .i64 s.year, .int .i64 s.box.x.lo, .int .i64 s.box.x.hi, .int .i64 s.box.y.lo, .int .i64 s.box.y.hi, .str ⟨(s.letters).toArray⟩, .int .i64 s.height.lo, .int .i64 s.height.hi]
@[simp] theorem Sight.eta (s : Sight) : (⟨s.id, s.year, s.box, s.letters, s.height⟩ : Sight) = s := rfl
@[simp] theorem asF_Sight (x0 : Int) (x1 : Int) (x2 : Int) (x3 : Int) (x4 : Int) (x5 : Int) (x6 : List UInt8) (x7 : Int) (x8 : Int) (P : Sight → Prop) {u} : asF Sight.cells [.pure (.int .i64 x0), .pure (.int .i64 x1), .pure (.int .i64 x2), .pure (.int .i64 x3), .pure (.int .i64 x4), .pure (.int .i64 x5), .pure (.str ⟨(x6).toArray⟩), .pure (.int .i64 x7), .pure (.int .i64 x8)] P u ↔ P ⟨x0, x1, ⟨⟨x2, x3⟩, ⟨x4, x5⟩⟩, x6, ⟨x7, x8⟩⟩ := by
  constructor
  · rintro ⟨a, h, hp⟩
    simp [Sight.cells] at h
    obtain ⟨rfl, rfl, rfl, rfl, rfl, rfl, rfl, rfl, rfl⟩ := h
    exact hp
  · intro h; exact ⟨_, rfl, h⟩
@[simp] theorem putIn_Sight {l : List Sight} {i : Nat} (x0 : Int) (x1 : Int) (x2 : Int) (x3 : Int) (x4 : Int) (x5 : Int) (x6 : List UInt8) (x7 : Int) (x8 : Int) (h : i < l.length) : putIn (.cells true (rowOf Sight.cells l)) 9 (i * 9) [.pure (.int .i64 x0), .pure (.int .i64 x1), .pure (.int .i64 x2), .pure (.int .i64 x3), .pure (.int .i64 x4), .pure (.int .i64 x5), .pure (.str ⟨(x6).toArray⟩), .pure (.int .i64 x7), .pure (.int .i64 x8)] = some (.cells true (rowOf Sight.cells (l.set i ⟨x0, x1, ⟨⟨x2, x3⟩, ⟨x4, x5⟩⟩, x6, ⟨x7, x8⟩⟩))) := putIn_rowG (f := Sight.cells) (a := ⟨x0, x1, ⟨⟨x2, x3⟩, ⟨x4, x5⟩⟩, x6, ⟨x7, x8⟩⟩) (fun _ => rfl) (fun _ => by first | rfl | simp) (by decide) h

theorem sh51 : G.shared 51 = false := by decide
theorem e51 (n : Nat) (a b c : Int) : callP G (n + 1) 51 [.int .i64 a, .int .i64 b, .int .i64 c] = some (.bool (decide (b ≤ a) && decide (a ≤ c))) := by
  refine callP_of (ext_none _) rfl g51 rfl ?_
  (repeat' first | simp [*, initEnv, c51] | (refine wpIf_two (fun _ h => ?_) (fun _ h => ?_) <;> try simp [-Nat.le_zero_eq] at h))
@[simp] theorem d51 (n : Nat) (H : Heap) (a : Int) (b : Int) (c : Int) : doCall (calleeOf G (n + 1)) H (.pure (.func 51 [])) [.pure (.int .i64 a), .pure (.int .i64 b), .pure (.int .i64 c)] = some (.val (.pure (.bool (decide (b ≤ a) && decide (a ≤ c))))) :=
  call_pureC (ps := [_, _, _]) (caps := []) sh51 (e51 n a b c)
theorem sh63 : G.shared 63 = false := by decide
theorem e63 (n : Nat) (a b c : Int) : callP G (n + 1) 63 [.int .i64 a, .int .i64 b, .int .i64 c] = some (.bool (decide (b ≤ a) && decide (a ≤ c))) := by
  refine callP_of (ext_none _) rfl g63 rfl ?_
  (repeat' first | simp [*, initEnv, c63] | (refine wpIf_two (fun _ h => ?_) (fun _ h => ?_) <;> try simp [-Nat.le_zero_eq] at h))
@[simp] theorem d63 (n : Nat) (H : Heap) (a : Int) (b : Int) (c : Int) : doCall (calleeOf G (n + 1)) H (.pure (.func 63 [])) [.pure (.int .i64 a), .pure (.int .i64 b), .pure (.int .i64 c)] = some (.val (.pure (.bool (decide (b ≤ a) && decide (a ≤ c))))) :=
  call_pureC (ps := [_, _, _]) (caps := []) sh63 (e63 n a b c)
theorem sh57 : G.shared 57 = false := by decide
theorem e57 (n : Nat) (a b c : Int) : callP G (n + 1) 57 [.int .i64 a, .int .i64 b, .int .i64 c] = some (.bool (decide (b ≤ a) && decide (a ≤ c))) := by
  refine callP_of (ext_none _) rfl g57 rfl ?_
  (repeat' first | simp [*, initEnv, c57] | (refine wpIf_two (fun _ h => ?_) (fun _ h => ?_) <;> try simp [-Nat.le_zero_eq] at h))
@[simp] theorem d57 (n : Nat) (H : Heap) (a : Int) (b : Int) (c : Int) : doCall (calleeOf G (n + 1)) H (.pure (.func 57 [])) [.pure (.int .i64 a), .pure (.int .i64 b), .pure (.int .i64 c)] = some (.val (.pure (.bool (decide (b ≤ a) && decide (a ≤ c))))) :=
  call_pureC (ps := [_, _, _]) (caps := []) sh57 (e57 n a b c)
theorem sh100 : G.shared 100 = false := by decide
theorem e100 (n : Nat) (a b c : Int) : callP G (n + 1) 100 [.int .i64 a, .int .i64 b, .int .i64 c] = some (.bool (decide (b ≤ a) && decide (a ≤ c))) := by
  refine callP_of (ext_none _) rfl g100 rfl ?_
  (repeat' first | simp [*, initEnv, c100] | (refine wpIf_two (fun _ h => ?_) (fun _ h => ?_) <;> try simp [-Nat.le_zero_eq] at h))
@[simp] theorem d100 (n : Nat) (H : Heap) (a : Int) (b : Int) (c : Int) : doCall (calleeOf G (n + 1)) H (.pure (.func 100 [])) [.pure (.int .i64 a), .pure (.int .i64 b), .pure (.int .i64 c)] = some (.val (.pure (.bool (decide (b ≤ a) && decide (a ≤ c))))) :=
  call_pureC (ps := [_, _, _]) (caps := []) sh100 (e100 n a b c)

def spanS (s : Span) : Bool := (decide (-1048576 ≤ s.lo) && decide (s.lo ≤ 1048576)) && (decide (s.lo ≤ s.hi) && decide (s.hi ≤ 1048576))
theorem sh49 : G.shared 49 = false := by decide
theorem e49 (n : Nat) (s : Span) : callP G (n + 2) 49 [.agg s.cells] = some (.bool (spanS s)) := by
  refine callP_of (ext_none _) rfl g49 rfl ?_
  (repeat' first | simp [*, initEnv, c49, Span.cells, spanS] | (refine wpIf_two (fun _ h => ?_) (fun _ h => ?_) <;> try simp [-Nat.le_zero_eq] at h))
@[simp] theorem d49 (n : Nat) (H : Heap) (s_lo : Int) (s_hi : Int) : doCall (calleeOf G (n + 2)) H (.pure (.func 49 [])) [.pure (.agg [.int .i64 s_lo, .int .i64 s_hi])] = some (.val (.pure ((fun (s : Span) => .bool (spanS s)) (⟨s_lo, s_hi⟩ : Span)))) :=
  call_pureC (ps := [_]) (caps := []) sh49 (e49 n (⟨s_lo, s_hi⟩ : Span))
def properS (b : Box) : Bool := spanS b.x && spanS b.y
theorem sh18 : G.shared 18 = false := by decide
theorem e18 (n : Nat) (b : Box) : callP G (n + 3) 18 [.agg b.cells] = some (.bool (properS b)) := by
  refine callP_of (ext_none _) rfl g18 rfl ?_
  (repeat' first | simp [*, initEnv, c18, Box.cells, properS] | (refine wpIf_two (fun _ h => ?_) (fun _ h => ?_) <;> try simp [-Nat.le_zero_eq] at h))
@[simp] theorem d18 (n : Nat) (H : Heap) (b_x_lo : Int) (b_x_hi : Int) (b_y_lo : Int) (b_y_hi : Int) : doCall (calleeOf G (n + 3)) H (.pure (.func 18 [])) [.pure (.agg [.int .i64 b_x_lo, .int .i64 b_x_hi, .int .i64 b_y_lo, .int .i64 b_y_hi])] = some (.val (.pure ((fun (b : Box) => .bool (properS b)) (⟨⟨b_x_lo, b_x_hi⟩, ⟨b_y_lo, b_y_hi⟩⟩ : Box)))) :=
  call_pureC (ps := [_]) (caps := []) sh18 (e18 n (⟨⟨b_x_lo, b_x_hi⟩, ⟨b_y_lo, b_y_hi⟩⟩ : Box))
def validS (x y : Int) : Bool := (decide (-1048576 ≤ x) && decide (x ≤ 1048576)) && (decide (-1048576 ≤ y) && decide (y ≤ 1048576))
theorem sh127 : G.shared 127 = false := by decide
theorem e127 (n : Nat) (x y : Int) : callP G (n + 2) 127 [.agg [.int .i64 x, .int .i64 y]] = some (.bool (validS x y)) := by
  refine callP_of (ext_none _) rfl g127 rfl ?_
  (repeat' first | simp [*, initEnv, c127, validS] | (refine wpIf_two (fun _ h => ?_) (fun _ h => ?_) <;> try simp [-Nat.le_zero_eq] at h))
@[simp] theorem d127 (n : Nat) (H : Heap) (x : Int) (y : Int) : doCall (calleeOf G (n + 2)) H (.pure (.func 127 [])) [.pure (.agg [.int .i64 x, .int .i64 y])] = some (.val (.pure (.bool (validS x y)))) :=
  call_pureC (ps := [_]) (caps := []) sh127 (e127 n x y)
def properR (b : Box) : Bool := validS b.x.lo b.y.lo && validS b.x.hi b.y.hi && decide (b.x.lo ≤ b.x.hi) && decide (b.y.lo ≤ b.y.hi)
theorem sh96 : G.shared 96 = false := by decide
theorem e96 (n : Nat) (b : Box) : callP G (n + 3) 96 [.agg b.cells] = some (.bool (properR b)) := by
  refine callP_of (ext_none _) rfl g96 rfl ?_
  (repeat' first | simp [*, initEnv, c96, Box.cells, properR] | (refine wpIf_two (fun _ h => ?_) (fun _ h => ?_) <;> try simp [-Nat.le_zero_eq] at h))
@[simp] theorem d96 (n : Nat) (H : Heap) (b_x_lo : Int) (b_x_hi : Int) (b_y_lo : Int) (b_y_hi : Int) : doCall (calleeOf G (n + 3)) H (.pure (.func 96 [])) [.pure (.agg [.int .i64 b_x_lo, .int .i64 b_x_hi, .int .i64 b_y_lo, .int .i64 b_y_hi])] = some (.val (.pure ((fun (b : Box) => .bool (properR b)) (⟨⟨b_x_lo, b_x_hi⟩, ⟨b_y_lo, b_y_hi⟩⟩ : Box)))) :=
  call_pureC (ps := [_]) (caps := []) sh96 (e96 n (⟨⟨b_x_lo, b_x_hi⟩, ⟨b_y_lo, b_y_hi⟩⟩ : Box))

def patC (pts : Bool) (c : UInt8) : Bool := (decide ((65 : Int) ≤ c.toNat) && decide ((c.toNat : Int) ≤ 90)) || (pts && decide ((c.toNat : Int) = 46))
def allC (pts : Bool) : List UInt8 → Bool
  | [] => true
  | c :: r => patC pts c && allC pts r
def patS (pts : Bool) (l : List UInt8) : Bool := decide ((1 : Int) ≤ l.length) && decide ((l.length : Int) ≤ 8) && allC pts l
theorem allC_drop {pts : Bool} {l : List UInt8} {i : Nat} (h : i < l.length) : allC pts (l.drop i) = (patC pts l[i] && allC pts (l.drop (i + 1))) := by
  rw [List.drop_eq_getElem_cons h, allC]
theorem allC_end {pts : Bool} {l : List UInt8} {i : Nat} (h : l.length ≤ i) : allC pts (l.drop i) = true := by
  rw [List.drop_eq_nil_of_le h, allC]

theorem sh64 : G.shared 64 = false := by decide
theorem e64 (n : Nat) (l : List UInt8) (pts : Bool) : callP G (n + 2) 64 [.str ⟨l.toArray⟩, .bool pts] = some (.bool (patS pts l)) := by
  refine callP_of (ext_none _) rfl g64 rfl ?_
  (repeat' first | simp [*, initEnv, c64] | (refine wpIf_two (fun _ h => ?_) (fun _ h => ?_) <;> try simp [-Nat.le_zero_eq] at h))
  all_goals try (simp [patS, *]; done)
  refine wp_loop (fun (i : Nat) env H => env 12 = .row 0 1 0 l.length ∧ H.get 0 = .cells true (rowB l) ∧ env 13 = .pure (.int .i64 l.length) ∧
      env 14 = .pure (.int .i64 i) ∧ env 1 = .pure (.bool pts) ∧ i ≤ l.length ∧ patS pts l = allC pts (l.drop i)) (fun i => l.length - i) 0 ?_ ?_ ?_
  · simp [initEnv, Heap.empty, Heap.get, Heap.alloc, patS, *]
  · simp only [loopFuel]; omega
  generalize patS pts l = P
  rintro i env H ⟨h12, hH, h13, h14, h15, hi, hall⟩
  have hfit : i < 9223372036854775807 := by omega
  (repeat' first | simp [*, initEnv] | (refine wpIf_two (fun _ h => ?_) (fun _ h => ?_) <;> try simp [-Nat.le_zero_eq] at h))
  all_goals first
    | (refine ⟨i + 1, by omega, by simp, by omega, ?_⟩; simp [*, allC_drop, patC]; done)
    | (simp [*, allC_drop, patC]; done)
    | (simp [allC_end, *]; done)
@[simp] theorem d64 (n : Nat) (H : Heap) (l : List UInt8) (pts : Bool) : doCall (calleeOf G (n + 2)) H (.pure (.func 64 [])) [.pure (.str ⟨l.toArray⟩), .pure (.bool pts)] = some (.val (.pure (.bool (patS pts l)))) :=
  call_pureC (ps := [_, _]) (caps := []) sh64 (e64 n l pts)

def patR (l : List UInt8) : Bool := allC true l && decide ((1 : Int) ≤ l.length) && decide ((l.length : Int) ≤ 8)
theorem patC_dot {c : UInt8} (h : (c.toNat : Int) = 46) : patC true c = true := by simp [patC, h]
theorem patC_not {c : UInt8} (h : ¬ (c.toNat : Int) = 46) : patC true c = (decide ((65 : Int) ≤ c.toNat) && decide ((c.toNat : Int) ≤ 90)) := by simp [patC, h]

theorem sh123 : G.shared 123 = false := by decide
theorem e123 (n : Nat) (l : List UInt8) (hl : l.length < 1152921504606846975) : callP G (n + 1) 123 [.str ⟨l.toArray⟩] = some (.bool (patR l)) := by
  refine callP_of (ext_none _) rfl g123 rfl ?_
  (repeat' first | simp [*, initEnv, c123] | (refine wpIf_two (fun _ h => ?_) (fun _ h => ?_) <;> try simp [-Nat.le_zero_eq] at h))
  refine wp_loop (fun (i : Nat) env H => env 0 = .pure (.str ⟨l.toArray⟩) ∧
      env 3 = .pure (.int .i64 i) ∧ i ≤ l.length ∧ allC true l = allC true (l.drop i)) (fun i => l.length - i) 0 ?_ ?_ ?_
  · simp [initEnv]
  · simp only [loopFuel]; omega
  rintro i env H ⟨h0, h3, hi, hall⟩
  have hfit : i < 9223372036854775807 := by omega
  have hP : patR l = (allC true (l.drop i) && decide ((1 : Int) ≤ l.length) && decide ((l.length : Int) ≤ 8)) := by rw [patR, hall]
  generalize patR l = P at *
  (repeat' first | simp [*, initEnv] | (refine wpIf_two (fun _ h => ?_) (fun _ h => ?_) <;> try simp [-Nat.le_zero_eq] at h))
  all_goals first
    | (refine ⟨i + 1, by omega, by simp, by omega, ?_⟩; simp [*, allC_drop, patC]; done)
    | (simp [*, allC_drop, patC]; done)
    | (simp [*, allC_end, patR]; done)
    | (intro h9; rw [allC_drop (by assumption)] at h9; simp [patC] at h9; omega)
@[simp] theorem d123 (n : Nat) (H : Heap) (l : List UInt8) (hl : l.length < 1152921504606846975) : doCall (calleeOf G (n + 1)) H (.pure (.func 123 [])) [.pure (.str ⟨l.toArray⟩)] = some (.val (.pure (.bool (patR l)))) :=
  call_pureC (ps := [_]) (caps := []) sh123 (e123 n l hl)

/-- What two patterns tell together, place by place. -/
def blendL : List UInt8 → List UInt8 → Option (List UInt8)
  | a :: p, b :: q => if (a.toNat : Int) = 46 then (blendL p q).map (b :: ·) else if ¬ (b.toNat : Int) = 46 ∧ ¬ (b.toNat : Int) = a.toNat then none else (blendL p q).map (a :: ·)
  | _, _ => some []
theorem blend_step {p q : List UInt8} {i : Nat} (hp : i < p.length) (hq : i < q.length) : blendL (p.drop i) (q.drop i) =
    if (p[i].toNat : Int) = 46 then (blendL (p.drop (i + 1)) (q.drop (i + 1))).map (q[i] :: ·) else if ¬ (q[i].toNat : Int) = 46 ∧ ¬ (q[i].toNat : Int) = p[i].toNat then none else (blendL (p.drop (i + 1)) (q.drop (i + 1))).map (p[i] :: ·) := by
  rw [List.drop_eq_getElem_cons hp, List.drop_eq_getElem_cons hq, blendL]
def okB (p q : List UInt8) : Bool := patS true p && patS true q && decide ((p.length : Int) = q.length)
def strP (l : List UInt8) : PV := .str ⟨l.toArray⟩
def blendS (p q : List UInt8) : PV := if okB p q = true then (match blendL p q with | some r => .tup [strP r, .bool true] | none => .tup [strP [], .bool false]) else .tup [strP [], .bool false]
theorem strP_nil : (PV.str ⟨#[]⟩) = strP [] := rfl

def rowB2 (l m : List UInt8) : List AV := rowB (l ++ m)

theorem sh113 : G.shared 113 = false := by decide
theorem e113 (n : Nat) (p q : List UInt8) : callP G (n + 3) 113 [.str ⟨p.toArray⟩, .str ⟨q.toArray⟩] = some (blendS p q) := by
  refine callP_of (ext_none _) rfl g113 rfl ?_
  (repeat' first | simp [*, initEnv, c113] | (refine wpIf_two (fun _ h => ?_) (fun _ h => ?_) <;> try simp [-Nat.le_zero_eq] at h))
  all_goals try (simp [blendS, okB, *, strP]; done)
  have hS : blendS p q = match blendL p q with | some r => .tup [strP r, .bool true] | none => .tup [strP [], .bool false] := by simp [blendS, okB, *]
  have hq : p.length = q.length := by omega
  have hlen : p.length ≤ 8 := by have h8 : patS true p = true := by assumption
                                 simp [patS] at h8; omega
  refine wp_loop (fun (d : List UInt8) env H => env 6 = .row 0 1 0 p.length ∧ H.get 0 = .cells true (rowB (d ++ p.drop d.length)) ∧ env 26 = .pure (.int .i64 p.length) ∧
      env 27 = .pure (.int .i64 d.length) ∧ env 1 = .pure (.str ⟨q.toArray⟩) ∧ d.length ≤ p.length ∧ blendL p q = (blendL (p.drop d.length) (q.drop d.length)).map (d ++ ·)) (fun d => p.length - d.length) [] ?_ ?_ ?_
  · simp [initEnv, Heap.empty, Heap.get, Heap.alloc, *]
  · simp only [loopFuel]; simp; omega
  have hnone : blendL p q = none → blendS p q = .tup [strP [], .bool false] := fun h => by rw [hS, h]
  have hsome : ∀ r, blendL p q = some r → blendS p q = .tup [strP r, .bool true] := fun r h => by rw [hS, h]
  clear hS
  generalize blendS p q = P at *
  have hql : ∀ i, i < p.length → i < q.length := fun i h => by omega
  rename decide ((p.length : Int) = q.length) = true => hx1
  rename (p.length : Int) = q.length => hx2
  clear hq hx1 hx2
  rintro d env H ⟨h6, hH, h26, h27, h1, hi, hall⟩
  have hfit : d.length < 9223372036854775807 := by omega
  have hnx := nx_of_get hH
  have hget : ∀ h, (d ++ p.drop d.length)[d.length]'h = p[d.length]'(by simp at h; omega) := fun h => by simp
  have hlq := hql d.length
  have hln : d.length + (p.length - d.length) = p.length := by omega
  (repeat' first | simp [*, initEnv] | (refine wpIf_two (fun _ h => ?_) (fun _ h => ?_) <;> try simp [-Nat.le_zero_eq] at h))
  · have hlt : d.length < p.length := by assumption
    have hc : (p[d.length].toNat : Int) = 46 := by assumption
    refine ⟨d ++ [q[d.length]'(hlq hlt)], by simp; omega, ?_, by simp, by simp; omega, ?_⟩
    · have h9 : (p.drop d.length).set 0 (q[d.length]'(hlq hlt)) = q[d.length]'(hlq hlt) :: p.drop (d.length + 1) := by rw [List.drop_eq_getElem_cons hlt, List.set_cons_zero]
      rw [h9]; simp
    · rw [blend_step hlt (hlq hlt), if_pos hc]; simp [Function.comp_def]
  · have hlt : d.length < p.length := by assumption
    have hc : ¬ (p[d.length].toNat : Int) = 46 := by assumption
    have hb : (q[d.length]'(hlq hlt)).toNat = (46 : Int) := by assumption
    refine ⟨d ++ [p[d.length]], by simp; omega, ?_, by simp, by simp; omega, ?_⟩
    · rw [List.drop_eq_getElem_cons hlt]; simp
    · rw [blend_step hlt (hlq hlt), if_neg hc, if_neg (fun h => h.1 hb)]; simp [Function.comp_def]
  · have hlt : d.length < p.length := by assumption
    have hc : ¬ (p[d.length].toNat : Int) = 46 := by assumption
    have hb : ((q[d.length]'(hlq hlt)).toNat : Int) = p[d.length].toNat := by assumption
    refine ⟨d ++ [p[d.length]], by simp; omega, ?_, by simp, by simp; omega, ?_⟩
    · rw [List.drop_eq_getElem_cons hlt]; simp
    · rw [blend_step hlt (hlq hlt), if_neg hc, if_neg (fun h => h.2 hb)]; simp [Function.comp_def]
  · have hlt : d.length < p.length := by assumption
    have hc : ¬ (p[d.length].toNat : Int) = 46 := by assumption
    have hb : ¬ ((q[d.length]'(hlq hlt)).toNat : Int) = 46 := by assumption
    have hb2 : ¬ ((q[d.length]'(hlq hlt)).toNat : Int) = p[d.length].toNat := by assumption
    rw [hnone (by rw [hall, blend_step hlt (hlq hlt), if_neg hc, if_pos ⟨hb, hb2⟩]; rfl)]
    rfl
  · have he : d.length = p.length := by omega
    have h0 : p.drop d.length = [] := List.drop_eq_nil_of_le (by omega)
    rw [hsome d (by rw [hall, h0]; simp [blendL])]
    rw [h0]
    simp [strP, he]
@[simp] theorem d113 (n : Nat) (H : Heap) (p : List UInt8) (q : List UInt8) : doCall (calleeOf G (n + 3)) H (.pure (.func 113 [])) [.pure (.str ⟨p.toArray⟩), .pure (.str ⟨q.toArray⟩)] = some (.val (.pure (blendS p q))) :=
  call_pureC (ps := [_, _]) (caps := []) sh113 (e113 n p q)

theorem sh65 : G.shared 65 = false := by decide
theorem e65 (n : Nat) (p q : List UInt8) : callP G (n + 4) 65 [.str ⟨p.toArray⟩, .str ⟨q.toArray⟩] = some (.bool (okB p q && (blendL p q).isSome)) := by
  refine callP_of (ext_none _) rfl g65 rfl ?_
  have hB : blendS p q = .tup [strP ((if okB p q = true then blendL p q else none).getD []), .bool (okB p q && (blendL p q).isSome)] := by
    unfold blendS
    cases okB p q <;> cases blendL p q <;> rfl
  (repeat' first | simp [*, initEnv, c65] | (refine wpIf_two (fun _ h => ?_) (fun _ h => ?_) <;> try simp [-Nat.le_zero_eq] at h))
@[simp] theorem d65 (n : Nat) (H : Heap) (p : List UInt8) (q : List UInt8) : doCall (calleeOf G (n + 4)) H (.pure (.func 65 [])) [.pure (.str ⟨p.toArray⟩), .pure (.str ⟨q.toArray⟩)] = some (.val (.pure (.bool (okB p q && (blendL p q).isSome)))) :=
  call_pureC (ps := [_, _]) (caps := []) sh65 (e65 n p q)
theorem sh29 : G.shared 29 = false := by decide
theorem e29 (n : Nat) (l p : List UInt8) : callP G (n + 5) 29 [.str ⟨l.toArray⟩, .str ⟨p.toArray⟩] = some (.bool (patS false l && (okB l p && (blendL l p).isSome))) := by
  refine callP_of (ext_none _) rfl g29 rfl ?_
  (repeat' first | simp [*, initEnv, c29] | (refine wpIf_two (fun _ h => ?_) (fun _ h => ?_) <;> try simp [-Nat.le_zero_eq] at h))
@[simp] theorem d29 (n : Nat) (H : Heap) (l : List UInt8) (p : List UInt8) : doCall (calleeOf G (n + 5)) H (.pure (.func 29 [])) [.pure (.str ⟨l.toArray⟩), .pure (.str ⟨p.toArray⟩)] = some (.val (.pure (.bool (patS false l && (okB l p && (blendL l p).isSome))))) :=
  call_pureC (ps := [_, _]) (caps := []) sh29 (e29 n l p)

/-- Do two texts agree, place by place? -/
def agreeL : List UInt8 → List UInt8 → Bool
  | a :: p, b :: q => !(!decide ((a.toNat : Int) = b.toNat) && !decide ((a.toNat : Int) = 46) && !decide ((b.toNat : Int) = 46)) && agreeL p q
  | _, _ => true
theorem agree_step {p q : List UInt8} {i : Nat} (hp : i < p.length) (hq : i < q.length) : agreeL (p.drop i) (q.drop i) =
    (!(!decide ((p[i].toNat : Int) = q[i].toNat) && !decide ((p[i].toNat : Int) = 46) && !decide ((q[i].toNat : Int) = 46)) && agreeL (p.drop (i + 1)) (q.drop (i + 1))) := by
  rw [List.drop_eq_getElem_cons hp, List.drop_eq_getElem_cons hq, agreeL]
def agreeR (p q : List UInt8) : Bool := patR p && patR q && decide ((p.length : Int) = q.length) && agreeL p q

theorem sh101 : G.shared 101 = false := by decide
theorem e101 (n : Nat) (p q : List UInt8) (hp : p.length < 1152921504606846975) (hq : q.length < 1152921504606846975) : callP G (n + 2) 101 [.str ⟨p.toArray⟩, .str ⟨q.toArray⟩] = some (.bool (agreeR p q)) := by
  refine callP_of (ext_none _) rfl g101 rfl ?_
  (repeat' first | simp [*, initEnv, c101] | (refine wpIf_two (fun _ h => ?_) (fun _ h => ?_) <;> try simp [-Nat.le_zero_eq] at h))
  all_goals try (simp [agreeR, *]; done)
  have hS : agreeR p q = agreeL p q := by simp [agreeR, *]
  have hlq : ∀ i, i < p.length → i < q.length := fun i h => by omega
  rename decide ((p.length : Int) = q.length) = true => hx1
  rename (p.length : Int) = q.length => hx2
  clear hx1 hx2
  refine wp_loop (fun (i : Nat) env H => env 0 = .pure (.str ⟨p.toArray⟩) ∧ env 1 = .pure (.str ⟨q.toArray⟩) ∧
      env 7 = .pure (.int .i64 i) ∧ i ≤ p.length ∧ agreeR p q = agreeL (p.drop i) (q.drop i)) (fun i => p.length - i) 0 ?_ ?_ ?_
  · simp [initEnv, hS]
  · simp only [loopFuel]; omega
  generalize agreeR p q = P at *
  clear hS
  rintro i env H ⟨h0, h1, h3, hi, hall⟩
  have hfit : i < 9223372036854775807 := by omega
  have hlqi := hlq i
  (repeat' first | simp [*, initEnv] | (refine wpIf_two (fun _ h => ?_) (fun _ h => ?_) <;> try simp [-Nat.le_zero_eq] at h))
  all_goals first
    | (refine ⟨i + 1, by omega, by simp, by omega, ?_⟩; rw [agree_step (by assumption) (by apply hlq; assumption)]; simp [*]; done)
    | (rw [agree_step (by assumption) (by apply hlq; assumption)]; simp [*]; done)
    | (rw [List.drop_eq_nil_of_le (by omega)]; simp [agreeL]; done)
    | skip
@[simp] theorem d101 (n : Nat) (H : Heap) (p : List UInt8) (q : List UInt8) (hp : p.length < 1152921504606846975) (hq : q.length < 1152921504606846975) : doCall (calleeOf G (n + 2)) H (.pure (.func 101 [])) [.pure (.str ⟨p.toArray⟩), .pure (.str ⟨q.toArray⟩)] = some (.val (.pure (.bool (agreeR p q)))) :=
  call_pureC (ps := [_, _]) (caps := []) sh101 (e101 n p q hp hq)

/-- Is there no point in a text? -/
def noDot : List UInt8 → Bool
  | [] => true
  | c :: r => !decide ((c.toNat : Int) = 46) && noDot r
theorem noDot_drop {l : List UInt8} {i : Nat} (h : i < l.length) : noDot (l.drop i) = (!decide ((l[i].toNat : Int) = 46) && noDot (l.drop (i + 1))) := by
  rw [List.drop_eq_getElem_cons h, noDot]
theorem sh56 : G.shared 56 = false := by decide
theorem e56 (n : Nat) (l p : List UInt8) (hl : l.length < 1152921504606846975) (hp : p.length < 1152921504606846975) : callP G (n + 3) 56 [.str ⟨l.toArray⟩, .str ⟨p.toArray⟩] = some (.bool (noDot l && agreeR l p)) := by
  refine callP_of (ext_none _) rfl g56 rfl ?_
  (repeat' first | simp [*, initEnv, c56] | (refine wpIf_two (fun _ h => ?_) (fun _ h => ?_) <;> try simp [-Nat.le_zero_eq] at h))
  refine wp_loop (fun (i : Nat) env H => env 0 = .pure (.str ⟨l.toArray⟩) ∧ env 1 = .pure (.str ⟨p.toArray⟩) ∧
      env 5 = .pure (.int .i64 i) ∧ i ≤ l.length ∧ noDot l = noDot (l.drop i)) (fun i => l.length - i) 0 ?_ ?_ ?_
  · simp [initEnv]
  · simp only [loopFuel]; omega
  generalize noDot l = P at *
  rintro i env H ⟨h0, h1, h3, hi, hall⟩
  have hfit : i < 9223372036854775807 := by omega
  (repeat' first | simp [*, initEnv] | (refine wpIf_two (fun _ h => ?_) (fun _ h => ?_) <;> try simp [-Nat.le_zero_eq] at h))
  all_goals first
    | (refine ⟨i + 1, by omega, by simp, by omega, ?_⟩; rw [noDot_drop (by assumption)]; simp [*]; done)
    | (intro h9; rw [noDot_drop (by assumption)] at h9; simp [*] at h9; done)
    | (rw [List.drop_eq_nil_of_le (by omega)]; simp [noDot]; done)
    | skip
@[simp] theorem d56 (n : Nat) (H : Heap) (l : List UInt8) (p : List UInt8) (hl : l.length < 1152921504606846975) (hp : p.length < 1152921504606846975) : doCall (calleeOf G (n + 3)) H (.pure (.func 56 [])) [.pure (.str ⟨l.toArray⟩), .pure (.str ⟨p.toArray⟩)] = some (.val (.pure (.bool (noDot l && agreeR l p)))) :=
  call_pureC (ps := [_, _]) (caps := []) sh56 (e56 n l p hl hp)
def mixL : List UInt8 → List UInt8 → List UInt8
  | a :: p, b :: q => (if (a.toNat : Int) = 46 then b else a) :: mixL p q
  | _, _ => []
theorem mix_step {p q : List UInt8} {i : Nat} (hp : i < p.length) (hq : i < q.length) : mixL (p.drop i) (q.drop i) = (if (p[i].toNat : Int) = 46 then q[i] else p[i]) :: mixL (p.drop (i + 1)) (q.drop (i + 1)) := by
  rw [List.drop_eq_getElem_cons hp, List.drop_eq_getElem_cons hq, mixL]
theorem sh154 : G.shared 154 = false := by decide
theorem e154 (n : Nat) (p q : List UInt8) (hp : p.length < 1152921504606846975) (hq : q.length < 1152921504606846975) : callP G (n + 3) 154 [.str ⟨p.toArray⟩, .str ⟨q.toArray⟩] = some (.tup [strP (if agreeR p q = true then mixL p q else []), .bool (agreeR p q)]) := by
  refine callP_of (ext_none _) rfl g154 rfl ?_
  (repeat' first | simp [*, initEnv, c154] | (refine wpIf_two (fun _ h => ?_) (fun _ h => ?_) <;> try simp [-Nat.le_zero_eq] at h))
  rotate_left
  · rfl
  have h8 : patR p = true ∧ (p.length : Int) = q.length := by have h9 : agreeR p q = true := by assumption
                                                              simp [agreeR] at h9; exact ⟨h9.1.1.1, by omega⟩
  have hl8 : p.length ≤ 8 := by have := h8.1; simp [patR] at this; omega
  have hlq : ∀ i, i < p.length → i < q.length := fun i h => by have := h8.2; omega
  clear h8
  refine wp_loop (fun (d : List UInt8) env H => env 0 = .pure (.str ⟨p.toArray⟩) ∧ env 1 = .pure (.str ⟨q.toArray⟩) ∧ OwnV bytesF 1 H (env 7) d ∧
      env 8 = .pure (.int .i64 d.length) ∧ d.length ≤ p.length ∧ mixL p q = d ++ mixL (p.drop d.length) (q.drop d.length)) (fun d => p.length - d.length) [] ?_ ?_ ?_
  · simp [initEnv, OwnV.nil]
  · simp only [loopFuel]; simp; omega
  generalize mixL p q = P at *
  rintro d env H ⟨h0, h1, h7, h8, hi, hall⟩
  have hfit : d.length < 9223372036854775807 := by omega
  have hlqi := hlq d.length
  have hts := h7.toStr
  (repeat' first | simp [*, initEnv] | (refine wpIf_two (fun _ h => ?_) (fun _ h => ?_) <;> try simp [-Nat.le_zero_eq] at h))
  · have hlt : d.length < p.length := by assumption
    have hc : (p[d.length].toNat : Int) = 46 := by assumption
    refine wpE_append (a := q[d.length]'(hlq _ hlt)) (h7.alloc _) (fun _ => rfl) (by decide) rfl (by rw [sliceCells_row1 get_alloc_new (by simp)]; rfl) (by simp [maxCells]; omega) (fun v' H' hv' _ _ _ => ?_)
    (repeat' first | simp [*, initEnv] | (refine wpIf_two (fun _ h => ?_) (fun _ h => ?_) <;> try simp [-Nat.le_zero_eq] at h))
    refine ⟨d ++ [q[d.length]'(hlq _ hlt)], by simp; omega, hv', by simp, by simp; omega, ?_⟩
    rw [mix_step hlt (hlq _ hlt), if_pos hc]; simp
  · have hlt : d.length < p.length := by assumption
    have hc : ¬ (p[d.length].toNat : Int) = 46 := by assumption
    refine wpE_append (a := p[d.length]) (h7.alloc _) (fun _ => rfl) (by decide) rfl (by rw [sliceCells_row1 get_alloc_new (by simp)]; rfl) (by simp [maxCells]; omega) (fun v' H' hv' _ _ _ => ?_)
    (repeat' first | simp [*, initEnv] | (refine wpIf_two (fun _ h => ?_) (fun _ h => ?_) <;> try simp [-Nat.le_zero_eq] at h))
    refine ⟨d ++ [p[d.length]], by simp; omega, hv', by simp, by simp; omega, ?_⟩
    rw [mix_step hlt (hlq _ hlt), if_neg hc]; simp
  · have h0 : p.drop d.length = [] := List.drop_eq_nil_of_le (by omega)
    rw [h0]
    simp [mixL, strP]
@[simp] theorem d154 (n : Nat) (H : Heap) (p : List UInt8) (q : List UInt8) (hp : p.length < 1152921504606846975) (hq : q.length < 1152921504606846975) : doCall (calleeOf G (n + 3)) H (.pure (.func 154 [])) [.pure (.str ⟨p.toArray⟩), .pure (.str ⟨q.toArray⟩)] = some (.val (.pure (.tup [strP (if agreeR p q = true then mixL p q else []), .bool (agreeR p q)]))) :=
  call_pureC (ps := [_, _]) (caps := []) sh154 (e154 n p q hp hq)

def heightS (h : Span) : Bool := decide (0 ≤ h.lo) && decide (h.lo ≤ h.hi) && decide (h.hi ≤ 100)
def sightS (s : Sight) : Bool := decide (1 ≤ s.id) && decide (s.id ≤ 1099511627776) && (decide (0 ≤ s.year) && decide (s.year ≤ 4000)) && properS s.box && patS true s.letters && heightS s.height
theorem sh86 : G.shared 86 = false := by decide
theorem e86 (n : Nat) (s : Sight) : callP G (n + 4) 86 [.agg s.cells] = some (.int .i64 (if sightS s = true then 0 else 1)) := by
  refine callP_of (ext_none _) rfl g86 rfl ?_
  (repeat' first | simp [*, initEnv, c86, Sight.cells] | (refine wpIf_two (fun _ h => ?_) (fun _ h => ?_) <;> try simp [-Nat.le_zero_eq] at h))
  all_goals first
    | (simp [sightS, heightS, *]; done)
    | (simp [sightS, heightS, *]; omega)
    | skip
@[simp] theorem d86 (n : Nat) (H : Heap) (s_id : Int) (s_year : Int) (s_box_x_lo : Int) (s_box_x_hi : Int) (s_box_y_lo : Int) (s_box_y_hi : Int) (s_letters : List UInt8) (s_height_lo : Int) (s_height_hi : Int) : doCall (calleeOf G (n + 4)) H (.pure (.func 86 [])) [.pure (.agg [.int .i64 s_id, .int .i64 s_year, .int .i64 s_box_x_lo, .int .i64 s_box_x_hi, .int .i64 s_box_y_lo, .int .i64 s_box_y_hi, .str ⟨(s_letters).toArray⟩, .int .i64 s_height_lo, .int .i64 s_height_hi])] = some (.val (.pure ((fun (s : Sight) => .int .i64 (if sightS s = true then 0 else 1)) (⟨s_id, s_year, ⟨⟨s_box_x_lo, s_box_x_hi⟩, ⟨s_box_y_lo, s_box_y_hi⟩⟩, s_letters, ⟨s_height_lo, s_height_hi⟩⟩ : Sight)))) :=
  call_pureC (ps := [_]) (caps := []) sh86 (e86 n (⟨s_id, s_year, ⟨⟨s_box_x_lo, s_box_x_hi⟩, ⟨s_box_y_lo, s_box_y_hi⟩⟩, s_letters, ⟨s_height_lo, s_height_hi⟩⟩ : Sight))
def sightR (s : Sight) : Bool := (decide (1 ≤ s.id) && decide (s.id ≤ 1099511627776)) && (decide (0 ≤ s.year) && decide (s.year ≤ 4000)) && properR s.box && patR s.letters && heightS s.height
theorem sh91 : G.shared 91 = false := by decide
theorem e91 (n : Nat) (s : Sight) (hl : s.letters.length < 1152921504606846975) : callP G (n + 4) 91 [.agg s.cells] = some (.int .i64 (if sightR s = true then 0 else 1)) := by
  refine callP_of (ext_none _) rfl g91 rfl ?_
  (repeat' first | simp [*, initEnv, c91, Sight.cells] | (refine wpIf_two (fun _ h => ?_) (fun _ h => ?_) <;> try simp [-Nat.le_zero_eq] at h))
  all_goals first
    | (simp [sightR, heightS, *]; done)
    | (simp [sightR, heightS, *]; omega)
    | skip
@[simp] theorem d91 (n : Nat) (H : Heap) (s_id : Int) (s_year : Int) (s_box_x_lo : Int) (s_box_x_hi : Int) (s_box_y_lo : Int) (s_box_y_hi : Int) (s_letters : List UInt8) (s_height_lo : Int) (s_height_hi : Int) (hl : (fun (s : Sight) => s.letters.length < 1152921504606846975) (⟨s_id, s_year, ⟨⟨s_box_x_lo, s_box_x_hi⟩, ⟨s_box_y_lo, s_box_y_hi⟩⟩, s_letters, ⟨s_height_lo, s_height_hi⟩⟩ : Sight)) : doCall (calleeOf G (n + 4)) H (.pure (.func 91 [])) [.pure (.agg [.int .i64 s_id, .int .i64 s_year, .int .i64 s_box_x_lo, .int .i64 s_box_x_hi, .int .i64 s_box_y_lo, .int .i64 s_box_y_hi, .str ⟨(s_letters).toArray⟩, .int .i64 s_height_lo, .int .i64 s_height_hi])] = some (.val (.pure ((fun (s : Sight) => .int .i64 (if sightR s = true then 0 else 1)) (⟨s_id, s_year, ⟨⟨s_box_x_lo, s_box_x_hi⟩, ⟨s_box_y_lo, s_box_y_hi⟩⟩, s_letters, ⟨s_height_lo, s_height_hi⟩⟩ : Sight)))) :=
  call_pureC (ps := [_]) (caps := []) sh91 (e91 n (⟨s_id, s_year, ⟨⟨s_box_x_lo, s_box_x_hi⟩, ⟨s_box_y_lo, s_box_y_hi⟩⟩, s_letters, ⟨s_height_lo, s_height_hi⟩⟩ : Sight) hl)

/-! ### The two specifications are one -/
theorem patS_patR (l : List UInt8) : patS true l = patR l := by
  simp only [patS, patR]
  cases allC true l <;> simp
theorem spanS_valid (b : Box) : properS b = properR b := by
  rw [Bool.eq_iff_iff]
  simp only [properS, properR, spanS, validS, Bool.and_eq_true, decide_eq_true_eq]
  omega
theorem sightS_sightR (s : Sight) : sightS s = sightR s := by
  simp only [sightS, sightR, patS_patR, spanS_valid]
theorem blend_agree : ∀ (p q : List UInt8), p.length = q.length → (blendL p q).isSome = agreeL p q ∧ (agreeL p q = true → blendL p q = some (mixL p q))
  | [], [], _ => ⟨rfl, fun _ => rfl⟩
  | a :: p, b :: q, h => by
    obtain ⟨h1, h2⟩ := blend_agree p q (by simpa using h)
    simp only [blendL, agreeL, mixL]
    by_cases ha : (a.toNat : Int) = 46
    · simp only [ha, if_true, Option.isSome_map, h1]
      refine ⟨by simp, fun h3 => ?_⟩
      simp at h3
      simp [h2 h3]
    · rw [if_neg ha]
      by_cases hb : ¬ (b.toNat : Int) = 46 ∧ ¬ (b.toNat : Int) = a.toNat
      · rw [if_pos hb]
        have : ¬ (a.toNat : Int) = b.toNat := fun e => hb.2 e.symm
        simp [ha, hb.1, this]
      · rw [if_neg hb]
        have : ((b.toNat : Int) = 46) ∨ ((a.toNat : Int) = b.toNat) := by
          rcases Decidable.em ((b.toNat : Int) = 46) with h | h
          · exact .inl h
          · exact .inr (Decidable.byContradiction fun h' => hb ⟨h, fun e => h' e.symm⟩)
        have hz : (!(!decide ((a.toNat : Int) = b.toNat) && !decide ((a.toNat : Int) = 46) && !decide ((b.toNat : Int) = 46))) = true := by
          rcases this with h | h <;> simp [h]
        rw [hz]
        refine ⟨by simp [h1], fun h3 => ?_⟩
        simp at h3
        simp [h2 h3, ha]
  | [], b :: q, h => by simp at h
  | a :: p, [], h => by simp at h
theorem agree_same (p q : List UInt8) : (okB p q && (blendL p q).isSome) = agreeR p q := by
  simp only [okB, agreeR, patS_patR]
  by_cases h : (p.length : Int) = q.length
  · rw [(blend_agree p q (by omega)).1]
  · simp [h]
theorem blend_same (p q : List UInt8) : blendS p q = .tup [strP (if agreeR p q = true then mixL p q else []), .bool (agreeR p q)] := by
  rw [← agree_same]
  unfold blendS
  cases ho : okB p q with
  | false => simp
  | true =>
    have hl : p.length = q.length := by simp [okB] at ho; omega
    obtain ⟨h1, h2⟩ := blend_agree p q hl
    cases hb : blendL p q with
    | none => simp
    | some r =>
      have : agreeL p q = true := by rw [← h1, hb]; rfl
      have := h2 this
      rw [hb] at this
      simp at this
      simp [this]
theorem allC_false (l : List UInt8) : allC false l = (allC true l && noDot l) := by
  induction l with
  | nil => rfl
  | cons c l ih =>
    simp only [allC, noDot, ih, patC]
    rw [Bool.eq_iff_iff]
    simp only [Bool.and_eq_true, Bool.or_eq_true, decide_eq_true_eq, Bool.not_eq_true', decide_eq_false_iff_not, Bool.false_eq_true, false_and, or_false, true_and]
    constructor
    · rintro ⟨h1, h2, h3⟩; exact ⟨⟨.inl h1, h2⟩, by omega, h3⟩
    · rintro ⟨⟨h1, h2⟩, h3, h4⟩
      rcases h1 with h1 | h1
      · exact ⟨h1, h2, h4⟩
      · exact absurd h1 h3
theorem reads_same (l p : List UInt8) : (patS false l && (okB l p && (blendL l p).isSome)) = (noDot l && agreeR l p) := by
  rw [agree_same]
  simp only [patS, allC_false, agreeR, patR]
  cases noDot l <;> cases allC true l <;> simp
  omega
end Go.Proofs.YtnomliioadjdgaaGreat.Vm
