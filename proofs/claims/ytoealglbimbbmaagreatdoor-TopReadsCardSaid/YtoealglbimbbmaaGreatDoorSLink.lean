import Derived.Test.YtoealglbimbbmaaGreatDoorSPoint
import Derived.Test.YtoealglbimbbmaaGreatDoorSEq
import Derived.Test.YtoealglbimbbmaaGreatDoorProg
import Derived.KernelRfl
namespace Go.Proofs.YtoealglbimbbmaaGreatDoor.S
open Go Go.Proofs
set_option linter.unusedVariables false
set_option maxRecDepth 100000
noncomputable def VN:A0:={ P:=Tryz.prog,eqs:=fun | 59=>some [.i .u64,.b,.i .i64] | _=>none }
theorem Kb:VN.OK:=by
 refine⟨fun t ks h=>?_,by kernel_rfl⟩
 unfold VN at h
 simp only at h
 split at h
 ·cases h;exact Ub 9 (by kernel_rfl) (by kernel_rfl) (by decide) (by kernel_rfl)
 ·cases h
abbrev Lk (S:KV→World→Prop)(f:FuncId)(args:List Value):Prop:=∀⦃K:KV⦄ ⦃w0:bg⦄ ⦃L:List ax⦄,G w0 L (S K)→G w0 L (CP Tryz.prog f args K)
theorem lk (N:qc){f:FuncId}{fn:Func}{args:List Value}{S:KV→World→Prop}(hf:Tryz.prog.funcs[f]? = some fn)(hn:(fn.name == "runtime.NumGoroutine")=false:=by kernel_rfl) (hE:∀K w,S K w=Pq VN N fn args K w:=by intro K w;kernel_rfl):Lk S f args:=fun _ _ _ h w hw=>Ef Kb N hf hn (Eq.mp (hE _ w) (h w hw))
noncomputable def nl (l:List (List Nat)):Nat→List Nat:=List.rec (motive:=fun _=>Nat→List Nat) (fun _=>[]) (fun a _ ih n=>Nat.rec (motive:=fun _=>List Nat) a (fun m _=>ih m) n) l
noncomputable def kl (l:List Nat):Nat→List Nat:=fun n=>SD 64 0 (List.rec (motive:=fun _=>Nat→Nat) (fun _=>0) (fun a _ ih n=>Nat.rec (motive:=fun _=>Nat) a (fun m _=>ih m) n) l n)
noncomputable def dl (l:List (Nat×Gp)):Nat→Gp:=List.rec (motive:=fun _=>Nat→Gp) (fun _=>.c []) (fun p _ ih n=>cond (Nat.beq p.1 n) p.2 (ih n)) l
section
variable {a0 a1 a2 a3 a4 a5 a6 a7 a8 a9:Value}{K:KV}{w0:bg}{L:List ax}
theorem Fe:Lk (wE a0 a1 a2) aaH [a0,a1,a2]:=lk {live:=fun|9=>[11]|12=>[12]|_=>[],keep:=kl [7,14,0,14,140,516,0,516,1540,3588,3588,3588,7684,7684,7684,3588,0,1536],rest:=kl [0,0,0,0,0,0,0,0,0,1540,0,0,3588],plan:=dl [(14,.c [0,1,2,3,4,5,7,8,9,10,11,131142,76])]} Tryz.func4
theorem LW:Lk DN aaI []:=lk {live:=kl [0,0,0,0,0,4],keep:=kl [0,0,2,0,2,6,6,6,2,26],rest:=kl [0,0,0,0,0,2]} Tryz.func9
theorem H6:Lk (zv a0 a1) Yr [a0,a1]:=lk {live:=fun|6=>[32]|12=>[51]|_=>[],keep:=kl [3,6,6,6,6,38,7516192806,7516192806,7516192998,7516192998,7516192806,38,3377699720527910,3377699720527910,3377699720528166,3377699720528678,3377699720528166,3377699720528678,3377699720527910,32],rest:=fun|6=>[1,2,5,30,31]|12=>[1,2,5,50]|_=>[],plan:=dl [(4,.c [0,1,2,131,4,69,6]),(17,.c [0,1,2,3,4,5,6,7,1096,1097,74,11,12,77])],joinC:=fun | 9=>some ([1,2,5,30,31,32],[]) | 16=>some ([1,2,5,8,50,51],[9]) | _=>none} Tryz.func10
theorem Ai:Lk (qC a0) aaJ [a0]:=lk {keep:=kl [1,6,14,12],plan:=dl [(1,.p (.take 0 1 (.take 1 3 (.take 3 11 (.take 4 27 (.take 6 91 (.take 7 219 (.both (.run 2 [7,4] 223 (.both (.run 5 [7] 255 (.both (.run 8 [] 511 (.take 9 1023 (.run 10 [] 2047 (.run 11 [] 4095 .done)))) (.run 10 [7] 1279 (.run 8 [] 1535 (.take 9 2047 (.run 11 [] 4095 .done)))))) (.run 10 [7,4] 1247 (.run 5 [7] 1279 (.run 8 [] 1535 (.take 9 2047 (.run 11 [] 4095 .done))))))) (.run 10 [7,4,1] 1243 (.run 2 [7,4] 1247 (.run 5 [7] 1279 (.run 8 [] 1535 (.take 9 2047 (.run 11 [] 4095 .done)))))))))))))),(2,.c [0,1,3,4,6,7,9,10,11,74818,73797,65608,12,13,78])]} Tryz.func11
theorem tg:Lk (kK a0) Yp [a0]:=lk {keep:=kl [1,1]} Tryz.func13
theorem Nl:Lk (Fy a0 a1 a2) aaK [a0,a1,a2]:=lk {keep:=kl [6,20]} Tryz.func14
theorem tx:Lk (lx a0 a1 a2) XW [a0,a1,a2]:=lk {live:=fun|13=>[80]|_=>[],keep:=nl [[0,1,2],[0,1,2],[],[0,1,2],[0,1,2],[0,1,2,7],[0,1,2,7],[7],[],[0,1,2,7],[0,1],[],[0,1],[0,1,78,79,80],[0,1,78,79,80],[0,1,8,9,78,79,80],[0,1,9,78,79,80],[0,1,78,79,80]],rest:=fun|13=>[0,1,78,79]|_=>[],plan:=dl [(9,.c [0,1,2,3,4,5,6,7,8,10,11,12,13,14,1048649,79]),(16,.c [0,1,2,3,4,5,6,7,8,9,10,11,76])],joinC:=fun | 16=>some ([0,1,78,79,80],[]) | _=>none} Tryz.func15
theorem PH:Lk (Ja a0 a1) aaL [a0,a1]:=lk {keep:=kl [3,9],plan:=dl [(1,.c [0,1,2,195,4,5,70,7])]} Tryz.func16
theorem HV:Lk (yZ a0 a1) XJ [a0,a1]:=lk {keep:=kl [3,3,33]} Tryz.func17
theorem MQ:Lk (Ea a0 a1) aaM [a0,a1]:=lk {live:=kl [0,0,0,0,256],keep:=kl [3,3,67,195,451,451,451,451,192],rest:=kl [0,0,0,0,195],plan:=dl [(6,.c [0,1,2,3,4,5,6,7,8,9,10,11,12,8269,8270,79,16,81]),(7,.c [0,1,2,3,4,5,6,7,8,9,10,11,8268,77,14,79])]} Tryz.func18
theorem LP:Lk (D6 a0) aaN [a0]:=lk {keep:=kl [1,6,12,12]} Tryz.func19
theorem qw:Lk (jp a0) Yq [a0]:=lk {live:=kl [0,0,0,2056],keep:=kl [1,1,9,3592,3592,3624,3592,8],rest:=kl [0,0,0,1536]} Tryz.func21
theorem Nv:Lk (GW a0) aaO [a0]:=lk {keep:=kl [1,5]} Tryz.func25
theorem q8:Lk (jy a0 a1) ZM [a0,a1]:=lk {keep:=kl [3,3,32,32]} Tryz.func27
theorem HM:Lk (zB a0 a1 a2) dg [a0,a1,a2]:=lk {keep:=kl [7,7,7,7,3],joinC:=fun | 3=>some ([1],[0]) | _=>none} Tryz.func30
theorem qY:Lk (jD a0) ZK [a0]:=lk {keep:=kl [1,1]} Tryz.func31
theorem sy:Lk (kO a0) ZL [a0]:=lk {live:=kl [0,0,2048],keep:=kl [1,1,3584,3584,3600,3616,0,3584],rest:=kl [0,0,1536]} Tryz.func36
theorem GU:Lk (wz a0) X4 [a0]:=lk {keep:=kl [1,6],plan:=dl [(1,.c [0,1,3,4,5,6,7,8,9,10,11,12,13,14,279618,15,80])]} Tryz.func37
theorem QQ:Lk (Jv a0) aaP [a0]:=lk {keep:=kl [1,2,2],plan:=dl [(2,.c [0,1,2,4,5,6,7,9,10,12,13,600195,589960,524427,142,15,80,17])]} Tryz.func38
theorem IF:Lk (zn a0) ZN [a0]:=lk {keep:=kl [1,1,8,8]} Tryz.func39
theorem JM:Lk (Cv a0 a1) YV [a0,a1]:=lk {keep:=kl [3,25,49,49,48],joinC:=fun | 3=>some ([4,5],[]) | _=>none} Tryz.func40
theorem JL:Lk (B7 a0 a1 a2) ZG [a0,a1,a2]:=lk {live:=fun|4=>[29]|_=>[],keep:=kl [7,21,21,132,939524224,939524224,939524736,939524224,128,128],rest:=kl [0,0,0,0,402653312],plan:=dl [(2,.c [0,1,2,3,4,5,6,7,8776,9,74,11]),(6,.c [0,1,2,3,4,5,6,1095,8,1097,74,11,12,77])]} Tryz.func41
theorem EW:Lk (uQ a0) aaQ [a0]:=lk {keep:=kl [1,1]} Tryz.func42
theorem xC:Lk (nR a0) ZE [a0]:=lk {keep:=kl [1,5,133,5,133,5,133,5,4]} Tryz.func43
theorem va:Lk (mC a0) aaR [a0]:=lk {keep:=kl [1,1,1,1],joinC:=fun | 3=>some ([],[]) | _=>none} Tryz.func44
theorem xi:Lk (nW a0 a1 a2 a3) ZF [a0,a1,a2,a3]:=lk {keep:=kl [15,45,32813,45,557,525,2573,13,13,13,32805,37,32801,33,33,33],plan:=dl [(4,.c [0,1,2,3,4,69])],joinC:=fun | 3=>some ([],[]) | 7=>some ([0,2,3],[]) | 9=>some ([],[]) | 11=>some ([],[]) | 13=>some ([],[]) | 14=>some ([0,5],[]) | _=>none} Tryz.func45
theorem wO:Lk (nv a0 a1 a2) aaS [a0,a1,a2]:=lk {live:=kl [0,0,524288],keep:=kl [7,7,917511,917511,917639,1,1,1,1,917511],rest:=kl [0,0,393223],joinC:=fun | 6=>some ([],[]) | 8=>some ([],[]) | _=>none} Tryz.func46
theorem Im:Lk (zN a0) aaT [a0]:=lk {live:=kl [0,0,0,16,0,0,32],keep:=kl [1,1,9,25,25,25,57,57,57,249],rest:=kl [0,0,0,9,0,0,25],plan:=dl [(8,.p (.take 0 1 (.take 1 3 (.take 2 7 (.take 3 15 (.take 4 31 (.take 5 63 (.take 6 127 (.take 7 255 (.take 8 511 (.take 9 1023 (.take 10 2047 (.take 11 4095 (.take 12 8191 (.take 13 16383 (.both (.run 14 [13,11,6,4] 32767 (.run 15 [13,11,6,4] 65535 (.run 16 [13,11] 131071 (.run 17 [] 262143 .done)))) (.run 15 [13,11,6,4] 49151 (.run 14 [13,11,6,4] 65535 (.run 16 [13,11] 131071 (.run 17 [] 262143 .done))))))))))))))))))))],joinB:=fun | 3=>some ([0,3,4,5],[]) | _=>none} Tryz.func47
theorem Km:Lk (Cy a0 a1) aaU [a0,a1]:=lk {live:=fun|4=>[6,7]|8=>[9]|_=>[],keep:=kl [3,3,35,98,226,226,226,482,994,994,994,2018,0,482,482],rest:=kl [0,0,0,0,34,0,0,0,482],plan:=dl [(11,.c [0,1,2,3,4,5,6,7,8,9,10,11,12,13,14,15,16,17,18,19,20])],joinC:=fun | 14=>some ([1,5,7],[6]) | _=>none} Tryz.func48
theorem KM:Lk (BE a0 a1) aaV [a0,a1]:=lk {live:=kl [0,0,0,64],keep:=kl [3,19,51,115,115,115,48,48,48],rest:=kl [0,0,0,51],plan:=dl [(5,.c [0,1,2,3,4,5,198,71,8,73])],joinC:=fun | 7=>some ([4,5],[]) | _=>none} Tryz.func49
theorem rW:Lk (j5 a0) ZI [a0]:=lk {live:=kl [0,0,0,8200],keep:=kl [1,1,9,14345,14345,14377,14345,9,9,137,9,8],rest:=kl [0,0,0,6145],joinC:=fun | 8=>some ([],[3]) | 10=>some ([],[3]) | _=>none} Tryz.func52
theorem HG:Lk (zJ a0) YW [a0]:=lk {live:=kl [0,0,0,24,0,0,32],keep:=kl [1,1,9,25,25,25,57,57,57,8],rest:=kl [0,0,0,1,0,0,25],plan:=dl [(6,.c [0,1,2,3,4,5,6,7,8,9,10,11,12,13,14,79,16]),(8,.p (.take 0 1 (.take 1 3 (.take 2 7 (.take 4 23 (.take 7 151 (.take 8 407 (.take 9 919 (.both (.run 3 [] 927 (.run 5 [] 959 (.run 6 [] 1023 (.run 10 [] 2047 (.take 11 4095 .done))))) (.run 5 [] 951 (.run 3 [] 959 (.run 6 [] 1023 (.run 10 [] 2047 (.take 11 4095 .done))))))))))))))],joinB:=fun | 1=>some ([0,4],[3]) | _=>none} Tryz.func53
theorem HO:Lk (yY a0 a1) YX [a0,a1]:=lk {live:=fun|4=>[7]|8=>[8]|_=>[],keep:=kl [3,3,34,98,226,226,226,98,354,354,354,354,64],rest:=kl [0,0,0,0,98,0,0,0,98],plan:=dl [(6,.c [0,1,2,3,4,5,6,7,8,9,10,11,12,13,14,15,16,17,82]),(11,.c [0,1,2,3,4,5,6,7,8,9,10,11,76])],joinC:=fun | 11=>some ([1,5,6,8],[]) | _=>none} Tryz.func54
theorem v8:Lk (oh a0 a1) acg [a0,a1]:=lk {keep:=kl [3,3,0,3]} Tryz.func57
theorem sO:Lk (kL a0) aaW [a0]:=lk {keep:=kl [1,1]} Tryz.func58
theorem vq:Lk (mf a0) aaX [a0]:=lk {keep:=kl [1,1]} Tryz.func63
theorem Ny:Lk (GM a0) YY [a0]:=lk {keep:=kl [1,6]} Tryz.func65
theorem Oa:Lk (Gi a0) ZS [a0]:=lk {keep:=kl [1,1]} Tryz.func66
theorem KG:Lk (BT a0 a1) aaY [a0,a1]:=lk {keep:=kl [3,3],plan:=dl [(1,.p (.take 0 1 (.take 3 9 (.run 1 [] 11 (.both (.run 2 [] 15 (.run 4 [] 31 (.take 5 63 (.run 6 [] 127 (.take 7 255 .done))))) (.run 4 [] 27 (.run 2 [] 31 (.take 5 63 (.run 6 [] 127 (.take 7 255 .done))))))))))]} Tryz.func67
theorem LH:Lk (Ec a0) aaZ [a0]:=lk {keep:=kl [1,1]} Tryz.func68
theorem Mz:Lk (D1 a0) ZX [a0]:=lk {keep:=kl [1,1]} Tryz.func69
theorem KK:Lk (Cz a0 a1) aa0 [a0,a1]:=lk {keep:=kl [3,25,57,48,185,57,185,57,185,57,185,57,185,57,185,49,185,57,185,57,185,57,48],plan:=dl [(5,.c [0,1,2,3,4,5,70,7,8,9,10,75,12,77]),(7,.c [0,1,2,3,4,5,6,7,72,9,74]),(9,.c [0,1,2,3,4,5,70,7,8,9,10,75,12,77]),(11,.c [0,1,2,3,4,5,6,7,8,9,74,11,12,13,14,79,16,81]),(13,.c [0,1,2,3,4,5,6,7,72,9,74]),(17,.c [0,1,2,3,4,5,6,7,72,9,10,11,12,77,14,79]),(19,.c [0,1,2,3,4,5,70,7,8,9,10,75,12,77]),(21,.c [0,1,2,3,4,5,6,7,72,9,74])],joinC:=fun | 5=>some ([4,5],[]) | 7=>some ([4,5],[]) | 9=>some ([4,5],[]) | 11=>some ([4,5],[]) | 13=>some ([4,5],[]) | 15=>some ([4,5],[]) | 17=>some ([4,5],[]) | 19=>some ([4,5],[]) | 21=>some ([4,5],[]) | _=>none} Tryz.func70
theorem Mw:Lk Ej Z0 []:=lk {} Tryz.func71
theorem mZ:Lk (mH a0) aa1 [a0]:=lk {keep:=kl [1,1,0,1]} Tryz.func72
theorem qV:Lk (jE a0) Xw [a0]:=lk {keep:=kl [1,1,1]} Tryz.func73
theorem EN:Lk (uz a0) ZT [a0]:=lk {keep:=kl [1,1]} Tryz.func74
theorem uk:Lk (lB a0) aaG [a0]:=lk {keep:=kl [1,5,133,5,133,4,133,5,133,5,133,4,5],plan:=dl [(7,.c [0,1,2,3,4,5,6,7,8,9,74,11])]} Tryz.func75
theorem uT:Lk (mu a0) Xp [a0]:=lk {live:=fun|7=>[2,62]|_=>[],keep:=kl [1,1,1,1,1,1,5,8070450532247928837,8070450532247928837,8070450532247928853,8070450532247928837,5,1],rest:=fun|7=>[0,60,61]|_=>[],plan:=dl [(2,.c [0,1,2,3,4,5,6,7,8,9,10]),(11,.c [0,1,2,3,4,5,6,7,8,9,74,11,12,77]),(1,.c [0,1,2,3,4,5,6,7,8,9,10,11,12,13,14,15,16,17,18,83,20,21,86])],joinC:=fun | 5=>some ([0],[]) | _=>none} Tryz.func76
theorem sr:Lk (kx a0) XH [a0]:=lk {keep:=kl [1,1],plan:=dl [(1,.c [0,1,2,3,4,5,6,7,8,9])]} Tryz.func77
theorem ud:Lk (kZ a0 a1) aaF [a0,a1]:=lk {keep:=kl [3,9,9,9,1,9,9,1,4194313,1,4194313,9,1,4194313,1,4194313,1],plan:=dl [(11,.c [0,1,2,3,4,5,6,7,8,5193,10,11,4172,13,14,79]),(6,.c [0,1,2,3,4,69])],joinC:=fun | 9=>some ([],[]) | 11=>some ([],[]) | 14=>some ([],[]) | 16=>some ([],[]) | _=>none} Tryz.func78
theorem vF:Lk (mB a0) Xk [a0]:=lk {keep:=kl [1,1,0,1]} Tryz.func79
theorem vk:Lk (mh a0 a1 a2) Yo [a0,a1,a2]:=lk {keep:=kl [7,71,67,65,65,1,67,67,67,65,3,65,1,1,1,65,65],plan:=dl [(1,.c [0,1,2,3,4,5,6,1095,1096,73,10,11,76]),(8,.c [0,65,2,3,4,6,7,8,9,10,11,131141,12,13]),(3,.c [0,1,2,3,4,5,7,9,11,1094,1096,1098,1100,13,1102,79,16,17,82]),(4,.c [0,1,2,3,4,6,581,583,72])],joinC:=fun | 7=>some ([],[]) | 12=>some ([],[]) | 16=>some ([],[]) | _=>none} Tryz.func80
theorem uY:Lk (md a0 a1 a2) aa2 [a0,a1,a2]:=lk {keep:=kl [7,21,17,5],plan:=dl [(1,.c [0,1,2,3,4,5,6,7,8,9,10,11,12,13,14,15,16,17,18,19,20,21,22,23]),(2,.c [0,1,2,3,4,5,582,7,8,73])]} Tryz.func81
theorem tR:Lk (kX a0 a1) aa3 [a0,a1]:=lk {keep:=kl [3,1]} Tryz.func82
theorem tA:Lk (lF a0) aay [a0]:=lk {keep:=kl [1,1]} Tryz.func83
theorem qJ:Lk (jf a0) aax [a0]:=lk {keep:=kl [1,1]} Tryz.func84
theorem EM:Lk (uu a0) aa4 [a0]:=lk {keep:=kl [1,2,10],plan:=dl [(2,.c [0,3,6,7,8769,2,8260,5,72,9,74,11])]} Tryz.func85
theorem EB:Lk (uN a0) ZH [a0]:=lk {keep:=kl [1,6,6],plan:=dl [(1,.c [0,1,3,4,6,7,9282,9,8261,72,74,11,76,13,78])]} Tryz.func86
theorem xL:Lk (nI a0 a1) YZ [a0,a1]:=lk {keep:=kl [3,19,51,115,371,115,371],plan:=dl [(6,.c [0,1,2,3,4,5,6,7,8,9,10,11,12,13,14,15,16,17,18,19,21,22,24,25,26,27,28,29,31,33,35,8598594132,8598594135,8598594142,8598594144,8598594146,8598594148,37,102])],joinC:=fun | 5=>some ([0,1,4,5,6],[8]) | _=>none} Tryz.func87
theorem Ko:Lk (Cl a0 a1) aa5 [a0,a1]:=lk {keep:=kl [3,12,12,12,4,12],plan:=dl [(3,.c [0,2,321,67,4])]} Tryz.func88
theorem Lb:Lk (CC a0 a1) aa6 [a0,a1]:=lk {live:=kl [0,0,0,64],keep:=kl [3,3,33,97,97,97,225,97,225,32],rest:=kl [0,0,0,33],joinC:=fun | 7=>some ([0,5,6],[7]) | _=>none} Tryz.func89
theorem GJ:Lk (wB a0 a1) aa7 [a0,a1]:=lk {keep:=kl [3,3]} Tryz.func90
theorem jM:Lk (jG a0) aa8 [a0]:=lk {keep:=kl [1,1,0,1]} Tryz.func92
theorem Ay:Lk (pV a0) aa9 [a0]:=lk {keep:=kl [1,1]} Tryz.func93
theorem HT:Lk (zu a0 a1) Xx [a0,a1]:=lk {keep:=kl [3,3]} Tryz.func96
theorem CQ:Lk (tm a0 a1) ZU [a0,a1]:=lk {keep:=kl [3,3,0,3]} Tryz.func97
theorem CM:Lk (rE a0 a1 a2) ZV [a0,a1,a2]:=lk {keep:=kl [7,7,0,7]} Tryz.func98
theorem yX:Lk (oZ a0 a1) aba [a0,a1]:=lk {keep:=kl [3,19,16,19]} Tryz.func99
theorem Ak:Lk (qu a0 a1 a2 a3) abb [a0,a1,a2,a3]:=lk {keep:=kl [15,195,1219,1024,195,0,131],plan:=dl [(4,.c [0,1,2,3,4,5,6,7,8]),(6,.c [0,1,2,3,4,5,6,71])]} Tryz.func100
theorem xV:Lk (nr a0 a1 a2) abc [a0,a1,a2]:=lk {keep:=kl [7,35,163,163,128],plan:=dl [(3,.c [0,1,2,3,4,5,6,71])],joinC:=fun | 3=>some ([7],[]) | _=>none} Tryz.func101
theorem Br:Lk (rt a0 a1 a2) abd [a0,a1,a2]:=lk {keep:=kl [7,7,0,7,0,7,0,5]} Tryz.func102
theorem zU:Lk (qF a0 a1) ZY [a0,a1]:=lk {keep:=kl [3,3,0,3]} Tryz.func103
theorem yC:Lk (o7 a0 a1 a2) ZZ [a0,a1,a2]:=lk {keep:=kl [7,7,0,7]} Tryz.func104
theorem oI:Lk (iE a0) ZJ [a0]:=lk {keep:=kl [1,1,0,1]} Tryz.func105
theorem ET:Lk (uK a0 a1 a2) aan [a0,a1,a2]:=lk {keep:=kl [7,21,132,128]} Tryz.func106
theorem IB:Lk (zm a0 a1 a2) aam [a0,a1,a2]:=lk {keep:=kl [7,49,160,128],plan:=dl [(2,.c [0,1,2,3,4,5,6,7,8,9,10,75,12,13,78])]} Tryz.func107
theorem vL:Lk (lV a0 a1 a2 a3) Xj [a0,a1,a2,a3]:=lk {keep:=kl [15,1]} Tryz.func108
theorem tw:Lk (lC a0) YT [a0]:=lk {keep:=kl [1,13,1,17,1,17,1,1033,1,1033,1,1,1033,9],plan:=dl [(5,.c [0,1,2,3,4,5,6,7,8,9,10,11,12,13,14,15,16,17,19,20,21,22,23,24,25,26,27,28,29,30,31,139586995282,96,33,34,99])],joinC:=fun | 8=>some ([],[]) | 10=>some ([],[]) | 13=>some ([],[]) | _=>none} Tryz.func109
theorem tV:Lk (lg a0) aaE [a0]:=lk {keep:=kl [1,1,65,65,1,1,1],joinC:=fun | 3=>some ([0],[]) | 4=>some ([0],[]) | 6=>some ([],[]) | _=>none} Tryz.func110
theorem xw:Lk (nK a0) X5 [a0]:=lk {keep:=kl [1,1,0,1]} Tryz.func111
theorem uZ:Lk (mo a0 a1) XK [a0,a1]:=lk {live:=kl [0,0,2064],keep:=kl [3,19,3091,3091,3091,19,1,1,1],rest:=kl [0,0,1027],joinC:=fun | 8=>some ([],[]) | _=>none} Tryz.func112
theorem vD:Lk (mc a0 a1) abe [a0,a1]:=lk {live:=kl [0,0,16384],keep:=kl [3,1,28673,28673,28705,28673,1],rest:=kl [0,0,12289],plan:=dl [(4,.c [0,1,2,3,4,5,6,7,2632,73])],joinC:=fun | 1=>some ([0],[]) | _=>none} Tryz.func113
theorem vB:Lk (mw a0) YO [a0]:=lk {keep:=kl [1,1,0,1]} Tryz.func114
theorem tc:Lk (kF a0) YQ [a0]:=lk {keep:=kl [1,1,0,1]} Tryz.func115
theorem tn:Lk (kH a0) X6 [a0]:=lk {keep:=kl [1,1]} Tryz.func116
theorem Cu:Lk (rJ a0 a1 a2) Yv [a0,a1,a2]:=lk {live:=kl [0,1024],keep:=kl [7,1795,1795,1923,1795],rest:=kl [0,771]} Tryz.func117
theorem sE:Lk (kC a0) YP [a0]:=lk {keep:=kl [1,1,0,1,1,1]} Tryz.func118
theorem vU:Lk (od a0) abf [a0]:=lk {keep:=kl [1,1,1,1]} Tryz.func119
theorem vV:Lk (ny a0) Y0 [a0]:=lk {keep:=kl [1,1,1,1,5,1,5,1],plan:=dl [(0,.c [0,1,2,3,4,5,6,7,8,9]),(2,.c [0,1,2,3,4,5,6,7,8,9,10,11]),(3,.c [0,1,2,3,4,5,6,7,72,9])],joinC:=fun | 1=>some ([0],[]) | _=>none} Tryz.func120
theorem CE:Lk (ri a0) X8 [a0]:=lk {keep:=kl [1,1]} Tryz.func121
theorem Cf:Lk (rL a0) Y1 [a0]:=lk {keep:=kl [1,2,2,2]} Tryz.func122
theorem EZ:Lk (uH a0) abg [a0]:=lk {keep:=kl [1,2]} Tryz.func123
theorem Ez:Lk (uM a0) abh [a0]:=lk {keep:=kl [1,2]} Tryz.func124
theorem lP:Lk (gA a0) XC [a0]:=lk {keep:=kl [1,1,0,1]} Tryz.func126
theorem tB:Lk (kT a0) XT [a0]:=lk {keep:=kl [1,1,0,1]} Tryz.func127
theorem q9:Lk (jz a0) XI [a0]:=lk {keep:=kl [1,1]} Tryz.func128
theorem sx:Lk (kA a0) aaz [a0]:=lk {keep:=kl [1,1]} Tryz.func129
theorem sD:Lk (kM a0) aaA [a0]:=lk {keep:=kl [1,1,0,1]} Tryz.func130
theorem HS:Lk (zh a0) X9 [a0]:=lk {keep:=kl [1,2]} Tryz.func131
theorem G4:Lk (xR a0 a1) abj [a0,a1]:=lk {keep:=kl [3,3]} Tryz.func132
theorem F1:Lk (xH a0 a1) Yt [a0,a1]:=lk {keep:=kl [3,3]} Tryz.func134
theorem A3:Lk (rb a0 a1) Y3 [a0,a1]:=lk {keep:=kl [3,3]} Tryz.func135
theorem AN:Lk (qE a0 a1 a2) Y4 [a0,a1,a2]:=lk {keep:=kl [7,35,0,32]} Tryz.func136
theorem Ds:Lk (sC a0 a1) Yu [a0,a1]:=lk {keep:=kl [3,3]} Tryz.func137
theorem EA:Lk (uv a0 a1) YM [a0,a1]:=lk {keep:=kl [3,9,9],plan:=dl [(2,.c [0,1,2,3,4,5,6,199,200,9,74,11])]} Tryz.func138
theorem JO:Lk (CL a0 a1 a2) ZO [a0,a1,a2]:=lk {keep:=kl [7,14,14,270],plan:=dl [(3,.c [0,1,2,4,6,7,8,131,133,9,74,11])]} Tryz.func139
theorem wG:Lk (oz a0) aaB [a0]:=lk {keep:=kl [1,1,1,1,1,1,17,16,4503599627370513,4503599627370512],rest:=kl [0,0,0,1],plan:=dl [(2,.c [0,1,2,3,5,6,7,8,16452,73,10,11]),(3,.c [0,1,2,3,4,5,6,7,8,9]),(5,.c [0,1,2,3,4,5,6,7,8,9,10,11,12,13,78,15])]} Tryz.func140
theorem vu:Lk (ml a0 a1) YR [a0,a1]:=lk {keep:=kl [3,1],plan:=dl [(0,.c [0,1,2,3,4,5,6,7,8,9,10,11,12,13,14,15,16,17,18,20,21,22,23,24,25,26,27,28,18253612115,93,30,31,96])]} Tryz.func141
theorem Df:Lk (ti a0) XL [a0]:=lk {keep:=kl [1,1]} Tryz.func142
theorem sZ:Lk (kN a0 a1) YS [a0,a1]:=lk {keep:=kl [3,3],plan:=dl [(0,.c [0,1,2,3,4,5,6,7,8,9,10,11,12,13,33870,79,16,17,82])]} Tryz.func143
theorem Ce:Lk (ru a0) XM [a0]:=lk {keep:=kl [1,1]} Tryz.func144
theorem JI:Lk (BK a0 a1 a2 a3 a4 a5 a6) abk [a0,a1,a2,a3,a4,a5,a6]:=lk {keep:=kl [127,127,32768,32768]} Tryz.func145
theorem gO:Lk (fA a0 a1 a2) Y5 [a0,a1,a2]:=lk {keep:=kl [7]} Tryz.func146
theorem sW:Lk (kz a0) aaD [a0]:=lk {keep:=kl [1,33,1,33,1,1,33,1,1,33,1],plan:=dl [(10,.c [0,1,2,3,4,6,7,8,9,32837,74,75])],joinC:=fun | 2=>some ([],[]) | 4=>some ([],[]) | 7=>some ([],[]) | 10=>some ([],[]) | _=>none} Tryz.func147
theorem vE:Lk (mv a0) YU [a0]:=lk {keep:=kl [1,1,0,1]} Tryz.func148
theorem pL:Lk (i0 a0) X7 [a0]:=lk {keep:=kl [1,1]} Tryz.func149
theorem vM:Lk (mb a0) ZQ [a0]:=lk {keep:=kl [1,1]} Tryz.func150
theorem Ah:Lk (qA a0) abl [a0]:=lk {live:=kl [0,0,0,131072],keep:=kl [1,1,9,229384,229384,229432,229384,8],rest:=kl [0,0,0,98312]} Tryz.func151
theorem Bf:Lk (rD a0) Y6 [a0]:=lk {keep:=kl [1,1]} Tryz.func152
theorem A2:Lk (rC a0) Z1 [a0]:=lk {keep:=kl [1,1]} Tryz.func153
theorem Aj:Lk (qk a0 a1) Yw [a0,a1]:=lk {live:=kl [0,0,0,16480],keep:=kl [3,3,99,28771,28771,29027,29027,29027,28771,97,32],rest:=kl [0,0,0,12291],joinC:=fun | 6=>some ([0,1,12,13,14],[5,6]) | _=>none} Tryz.func154
theorem kS:Lk (gC a0) XU [a0]:=lk {keep:=kl [1,1,0,1]} Tryz.func155
theorem sM:Lk (kB a0) abm [a0]:=lk {keep:=kl [1,1]} Tryz.func156
theorem oP:Lk (jH a0) XG [a0]:=lk {keep:=kl [1,1]} Tryz.func157
theorem Cq:Lk (rl a0) Y7 [a0]:=lk {live:=kl [0,0,0,131080],keep:=kl [1,1,9,229385,229385,229417,229385,8],rest:=kl [0,0,0,98305]} Tryz.func158
theorem LB:Lk (El a0 a1 a2) XV [a0,a1,a2]:=lk {keep:=kl [7,7,2,5,4,1]} Tryz.func159
theorem Db:Lk (sq a0) abn [a0]:=lk {keep:=kl [1,1],plan:=dl [(1,.p (.take 0 1 (.both (.run 1 [] 3 (.run 2 [] 7 (.take 3 15 (.run 4 [] 31 (.take 5 63 .done))))) (.run 2 [] 5 (.run 1 [] 7 (.take 3 15 (.run 4 [] 31 (.take 5 63 .done))))))))]} Tryz.func160
theorem Qx:Lk (IV a0) abo [a0]:=lk {keep:=kl [1,2,2,2]} Tryz.func161
theorem Od:Lk (Gl a0 a1) Y8 [a0,a1]:=lk {keep:=kl [3,3],plan:=dl [(1,.p (.take 0 1 (.take 1 3 (.take 2 7 (.take 4 23 (.both (.run 3 [] 31 (.run 5 [] 63 (.take 6 127 (.run 7 [] 255 (.take 8 511 .done))))) (.run 5 [] 55 (.run 3 [] 63 (.take 6 127 (.run 7 [] 255 (.take 8 511 .done)))))))))))]} Tryz.func162
theorem L4:Lk (DZ a0) abp [a0]:=lk {keep:=kl [1,1]} Tryz.func163
theorem MO:Lk (Ev a0) Y9 [a0]:=lk {live:=fun|5=>[4,21]|_=>[],keep:=kl [1,2,0,2,18,3670034,3670034,3670130,3670258,160,3670130,3670034,18,16,2],rest:=kl [0,0,0,0,0,1572866],plan:=dl [(14,.c [0,1,130,67,4,5,6,7])]} Tryz.func164
theorem It:Lk (zg a0) abq [a0]:=lk {live:=fun|7=>[27]|12=>[37]|18=>[57]|_=>[],keep:=kl [1,2,18,0,2,34,98,201326690,201326690,201326818,201326690,98,240518168674,240518168674,240518169442,240518168930,240518168674,98,252201579132747872,252201579132747872,252201579132750944,252201579132748896,252201579132747872,64],rest:=fun|7=>[1,5,6,26]|12=>[1,5,6,35,36]|18=>[5,6,55,56]|_=>[],joinC:=fun | 15=>some ([1,5,6,35,36,37],[]) | 21=>some ([5,6,55,56,57],[]) | _=>none} Tryz.func165
theorem My:Lk D3 abr []:=lk {} Tryz.func166
theorem yu:Lk (o0 a0) abs [a0]:=lk {keep:=nl [[0],[0],[0],[0],[0],[0],[0],[0],[0],[0],[0,3],[0,3],[0,3,65],[0],[0],[0,3,65],[],[0]],rest:=kl [0,1],plan:=dl [(4,.c [0,1,2,3,4,5,6,7,8,9,10,11]),(9,.c [0,1,2,3,4,5,6,7,8,9,10,11,76,13])],joinC:=fun | 13=>some ([0],[]) | _=>none,joinB:=fun | 1=>some ([0],[]) | _=>none} Tryz.func167
theorem yB:Lk (pi a0) ZP [a0]:=lk {keep:=kl [1,1]} Tryz.func168
theorem Kw:Lk (BL a0 a1) abt [a0,a1]:=lk {keep:=kl [3,3,227,35,163,128,35,419,128,291],joinC:=fun | 3=>some ([0,1,5],[7]) | _=>none} Tryz.func169
theorem MW:Lk (DM a0 a1 a2 a3 a4) abu [a0,a1,a2,a3,a4]:=lk {keep:=kl [31,31]} Tryz.func170
theorem Ml:Lk (Eu a0 a1 a2) Za [a0,a1,a2]:=lk {keep:=kl [7,7,0,7],plan:=dl [(3,.c [0,1,4,66,3,69,6,7])]} Tryz.func171
theorem Kj:Lk (BJ a0 a1 a2) abv [a0,a1,a2]:=lk {keep:=kl [7,7]} Tryz.func172
noncomputable def mg:qc:={ live:=fun | _=>[],keep:=fun | 0=>[0] | 1=>[0,2] | 2=>[0,2,3] | 3=>[3,13] | 4=>[3,5] | 5=>[3,5,6] | 6=>[3,6] | 7=>[3,6] | 8=>[3] | _=>[],rest:=fun | _=>[],plan:=fun | _=>.c [],joinC:=fun | _=>none,joinB:=fun | _=>none }
theorem G7:Lk (w6 a0 a1) Ya [a0,a1]:=lk {keep:=kl [3,19]} Tryz.func174
theorem C9:Lk (tf a0 a1 a2) ZR [a0,a1,a2]:=lk {live:=kl [0,0,0,8320],keep:=kl [7,7,135,14470,14470,14982,15494,15494,14470,128,128],rest:=kl [0,0,0,6150],joinC:=fun | 7=>some ([1,2,11,12,13],[7]) | _=>none} Tryz.func175
theorem xq:Lk (ox a0) Zb [a0]:=lk {keep:=kl [1,1,1],plan:=dl [(1,.c [0,1,2,3,4,5,6,7,8,9,10])],joinC:=fun | 2=>some ([],[]) | _=>none} Tryz.func176
theorem qZ:Lk (jA a0) aaC [a0]:=lk {keep:=kl [1,1,1,5,5,2097157,1,1,2097157,1],plan:=dl [(2,.c [0,1,2,3,4,5,6,7,584,73,10]),(6,.c [0,1,2,3,4,5,6,7,9,10,11,12,262728,589,78])],joinC:=fun | 6=>some ([],[]) | 9=>some ([],[]) | _=>none} Tryz.func177
theorem uV:Lk (my a0) Zc [a0]:=lk {keep:=kl [1,1,0,1]} Tryz.func178
theorem yw:Lk (oQ a0) abx [a0]:=lk {keep:=kl [1,1]} Tryz.func179
theorem zY:Lk (qi a0) aby [a0]:=lk {keep:=kl [1,1]} Tryz.func180
theorem Kr:Lk (A8 a0) abz [a0]:=lk {keep:=kl [1,1,32,256,8,32,8192,16]} Tryz.func181
theorem vC:Lk (mz a0) abB [a0]:=lk {live:=kl [0,0,0,2056],keep:=kl [1,1,9,3592,3592,3624,3592,8],rest:=kl [0,0,0,1536]} Tryz.func183
theorem Hr:Lk (xG a0 a1) ZW [a0,a1]:=lk {live:=kl [0,0,512],keep:=kl [3,3,898,898,962,0,898],rest:=kl [0,0,386]} Tryz.func184
theorem sK:Lk (kP a0) Xr [a0]:=lk {keep:=kl [1,1]} Tryz.func185
theorem LV:Lk (D5 a0) abC [a0]:=lk {keep:=kl [1,1]} Tryz.func186
theorem Kt:Lk (Ca a0) Zd [a0]:=lk {keep:=kl [1,1]} Tryz.func187
theorem IJ:Lk (zp a0 a1 a2) abD [a0,a1,a2]:=lk {keep:=kl [7,42,0,42,0,42,0,34],plan:=dl [(3,.c [0,1,66,3,4,5,6,8,9,32839,74,11,12,13])]} Tryz.func188
theorem wh:Lk (nO a0 a1 a2) Ze [a0,a1,a2]:=lk {keep:=kl [7,7,7,7,3,1],joinC:=fun | 2=>some ([1,2],[0]) | 4=>some ([],[0]) | _=>none} Tryz.func189
theorem wH:Lk (ov a0) Zf [a0]:=lk {keep:=kl [1,1,0,1]} Tryz.func190
noncomputable def zd:qc:={ live:=fun | 2=>[11] | _=>[],keep:=fun | 0=>[0,1] | 1=>[1,2] | 2=>[1,2,9,10,11] | 7=>[1,2,9,10,11] | 3=>[1,2,9,10,11] | 4=>[1,2,6,7,9,10,11] | 5=>[1,2,6,7,9,10,11] | 6=>[6] | _=>[],rest:=fun | 2=>[1,2,9,10] | _=>[],plan:=fun | 5=>.c [0,1,2,3,4,5,6,7,8,9,10,11,12,13,14,15,16,17,18,19,20,21,22,23,24,25,26,27,28,29,30,31,32,33,34,35,36,37,38,39,40] | _=>.c [],joinC:=fun | _=>none,joinB:=fun | 1=>some ([1,2,9,10,11],[]) | _=>none }
theorem Ib (a0 a1:Value)(K:KV)(w:World):rN a0 a1 K w=Pq VN zd Tryz.f191 [a0,a1] K w:=by kernel_rfl
theorem Ih {a0 a1:Value}{K:KV}{w0:bg}{L:List ax}(h:G w0 L (nm a0 a1 K)):G w0 L (CP Tryz.prog abE [a0,a1] K):=fun w hw=>Ef Kb zd Tryz.func191 (by kernel_rfl) (Eq.mp (Ib a0 a1 K w) (Eq.mp (congrFun (Ie a0 a1 K) w) (h w hw)))
theorem EE:Lk (uD a0) Zg [a0]:=lk {live:=kl [0,0,0,0,16400],keep:=kl [1,2,10,26,28696,28696,28792,28792,28696,8],rest:=kl [0,0,0,0,12296]} Tryz.func192
theorem Ks:Lk (Bz a0) XN [a0]:=lk {keep:=kl [1,1,8,0,8,0,8]} Tryz.func193
theorem xp:Lk (nN a0 a1) XX [a0,a1]:=lk {keep:=kl [3]} Tryz.func194
theorem zW:Lk (qG a0 a1) abF [a0,a1]:=lk {keep:=kl [3,9,233,9,4294967529,40,4294967529,96,4294967529,224,4294967529,224,4294967529,224,4294967529,224,4294967529,224,4294967401,9,4294967401,41,9,4294967401,33,0,4294967401,0,4294967401,9,4294967401,4294967401,4294967401,4294967401,105],plan:=dl [(1,.c [0,1,2,3,4,5,6,7,8,9,10,11,12,13,14,15,16,17,18,19,20,21,22,23,24,25]),(24,.c [0,1,2,3,4,5,6,71,8])],joinC:=fun | 5=>some ([],[]) | 7=>some ([],[]) | 9=>some ([],[]) | 11=>some ([],[]) | 13=>some ([],[]) | 15=>some ([],[]) | 17=>some ([],[]) | 19=>some ([],[]) | 21=>some ([],[]) | 22=>some ([],[]) | 31=>some ([0,3,5,6],[120]) | 32=>some ([0,3,5,6],[120]) | 33=>some ([0,3,5,6],[120]) | _=>none} Tryz.func195
theorem Il:Lk (zi a0 a1) Zh [a0,a1]:=lk {keep:=kl [3,3,0,3,384,256,128,1536,0,1536]} Tryz.func196
theorem Dg:Lk (sH a0 a1) Xl [a0,a1]:=lk {keep:=kl [3,3,0,3,195,64,3,259,256,3]} Tryz.func197
theorem Kc:Lk (BU a0) XO [a0]:=lk {keep:=kl [1,1]} Tryz.func198
theorem Dn:Lk (sR a0 a1) Xy [a0,a1]:=lk {live:=kl [0,0,512],keep:=kl [3,3,899,899,963,0,899,3],rest:=kl [0,0,387]} Tryz.func199
theorem eY:Lk (dG a0) Yb [a0]:=lk {keep:=kl [1,2]} Tryz.func200
theorem KE:Lk (BG a0) XP [a0]:=lk {keep:=kl [1,1]} Tryz.func201
theorem w9:Lk (ou a0 a1) Xz [a0,a1]:=lk {live:=kl [0,0,0,8192],keep:=kl [3,3,35,14369,14369,14497,14625,289,256,14369],rest:=kl [0,0,0,6177]} Tryz.func202
theorem yy:Lk (oS a0) Xs [a0]:=lk {keep:=kl [1,1]} Tryz.func203
theorem BR:Lk (rm a0) XF [a0]:=lk {keep:=kl [1,1]} Tryz.func206
theorem A9:Lk (rA a0 a1) abI [a0,a1]:=lk {keep:=kl [3,9,0,9,105,40,0,0,9,0,9],plan:=dl [(8,.c [0,1,2,3,4,5,6,7,8,9]),(10,.c [0,1,2,3,4,5,1094,71,8,9,74])]} Tryz.func207
theorem AA:Lk (qR a0) abJ [a0]:=lk {keep:=kl [1,5,4,5],plan:=dl [(3,.c [0,1,2,3,4,5,6,7,8,9,74])]} Tryz.func208
theorem CS:Lk (so a0 a1 a2) Yc [a0,a1,a2]:=lk {keep:=kl [7,7,0,7,135,132,0,0,7,3]} Tryz.func209
theorem AP:Lk (qL a0) abK [a0]:=lk {keep:=kl [1,1,0,1]} Tryz.func210
theorem yF:Lk (oW a0) YN [a0]:=lk {keep:=kl [1,1]} Tryz.func211
theorem sS:Lk (kD a0) abL [a0]:=lk {keep:=kl [1,1]} Tryz.func212
theorem tL:Lk (ub a0) abM [a0]:=lk {keep:=kl [1,1,0,1]} Tryz.func213
theorem xP:Lk (oC a0 a1) ach [a0,a1]:=lk {keep:=kl [3,3]} Tryz.func214
theorem Gg:Lk wF abN []:=lk {} Tryz.func218
theorem N7:Lk (Gf a0) abO [a0]:=lk {keep:=kl [1,2,58]} Tryz.func219
theorem FK:Lk (xm a0) Zi [a0]:=lk {keep:=kl [1,1]} Tryz.func221
theorem KL:Lk (B6 a0) Zj [a0]:=lk {keep:=kl [1,1]} Tryz.func222
theorem Gm:Lk (xf a0) Yd [a0]:=lk {keep:=kl [1,1]} Tryz.func223
theorem wx:Lk (nJ a0 a1) Zk [a0,a1]:=lk {keep:=kl [3,3]} Tryz.func224
theorem wM:Lk (ow a0 a1) Zl [a0,a1]:=lk {keep:=kl [3,9,233,536871145,105,536871145,105,536871145,105,536871145,233,536871145,105,536871145,105,536871145,97,536871145,41,536871145,233,536871145,105,536871145,105,233,777],plan:=dl [(1,.c [0,1,2,3,4,5,6,7,8,9,10,11,12,13,14,15,16,17,18,19,20]),(4,.c [0,1,3,4,5,6,7,8,4162,73,10,11,76,13]),(6,.c [0,1,3,4,5,6,7,8,4162,73,10,11,76,13]),(8,.c [0,1,3,4,5,6,7,8,4162,73,10,11,76,13]),(10,.c [0,1,3,4,5,6,7,8,9,4162,74,11,12,77,14]),(12,.c [0,1,3,4,5,6,7,8,4162,73,10,11,12,77,14]),(14,.c [0,1,3,4,5,6,7,8,4162,73,10,11,76,13]),(20,.c [0,1,3,4,5,6,7,8,9,4162,74,11,12,77,14]),(22,.c [0,1,3,4,5,6,7,8,4162,73,10,11,12,77,14]),(24,.c [0,1,3,4,5,6,7,8,4162,73,10,11,76,13])]} Tryz.func225
theorem vR:Lk (mi a0 a1 a2 a3) Zm [a0,a1,a2,a3]:=lk {keep:=kl [15,45,131117,45,1541,1024,517,3076,3076,1024,131117,45,12297,8192,4105,131085,13,0,13,49156,49156,32768,5,0,5],plan:=dl [(11,.c [0,1,2,3,4,69,6,7,8,9,10]),(24,.c [0,1,2,3,4,5,6,7,72,9])],joinC:=fun | 8=>some ([10],[]) | 20=>some ([15],[]) | _=>none} Tryz.func226
theorem C0:Lk (sI a0) Ye [a0]:=lk {keep:=kl [1,1]} Tryz.func228
theorem G6:Lk (wI a0) abP [a0]:=lk {keep:=kl [1,1,1,1,1]} Tryz.func229
theorem GY:Lk (wm a0 a1) XQ [a0,a1]:=lk {keep:=kl [3,3]} Tryz.func230
noncomputable def oV:qc:={ live:=fun | _=>[],keep:=fun | 0=>[0,1] | 1=>[0,3,4,5] | 2=>[3,4,5,16] | 3=>[3,4,5,7] | 4=>[4,5,8,9] | 5=>[4,5,8] | 6=>[4,5] | _=>[],rest:=fun | _=>[],plan:=fun | 3=>.c [0,1,2,3,4,69,6,7,8,9,10] | _=>.c [],joinC:=fun | _=>none,joinB:=fun | _=>none }
theorem wS:Lk (oe a0 a1) abR [a0,a1]:=lk {live:=fun|4=>[20]|_=>[],keep:=kl [3,3,35,35,1835041,1835041,1835169,1835297,289,256,1835041],rest:=kl [0,0,0,0,786465]} Tryz.func232
theorem yS:Lk (oT a0 a1 a2) Zn [a0,a1,a2]:=lk {keep:=kl [7,7,0,7,135,133,0,7,0,7],plan:=dl [(7,.c [0,1,2,3,4,5,6,7,8,9])]} Tryz.func234
theorem Ch:Lk (re a0 a1) abS [a0,a1]:=lk {live:=kl [0,0,8192],keep:=kl [3,3,14338,14338,14466,128,14338],rest:=kl [0,0,6146]} Tryz.func237
theorem nC:Lk (hN a0 a1) Zo [a0,a1]:=lk {keep:=kl [3,3,1,1,1,33,97,0,3,256]} Tryz.func238
theorem Io:Lk (zt a0) abT [a0]:=lk {keep:=kl [1,29,61,188,188,188,60,188,188,60,188,188,188,188,188,60,188,188,60,188,28,188,60,156,28,28],plan:=dl [(25,.c [0,1,2,451,324,69]),(9,.c [0,1,194,67]),(15,.c [0,1,2,451,324,69]),(18,.c [0,1,2,195,68,69])],joinC:=fun | 4=>some ([2,3,4,5,7],[8]) | 5=>some ([2,3,4,5,7],[8]) | 6=>some ([2,3,4],[]) | 8=>some ([2,3,4,5,7],[13]) | 9=>some ([2,3,4],[]) | 11=>some ([2,3,4,5,7],[18]) | 12=>some ([2,3,4,5,7],[18]) | 13=>some ([2,3,4,5,7],[18]) | 14=>some ([2,3,4,5,7],[18]) | 15=>some ([2,3,4],[]) | 17=>some ([2,3,4,5,7],[27]) | 18=>some ([2,3,4],[]) | 20=>some ([2,3,4],[]) | 22=>some ([2,3,4],[]) | 24=>some ([2,3,4],[]) | _=>none} Tryz.func241
theorem L3:Lk (D2 a0) abU [a0]:=lk {keep:=kl [1,1]} Tryz.func242
theorem CB:Lk (rj a0 a1) Yf [a0,a1]:=lk {keep:=kl [3,6]} Tryz.func243
theorem Bk:Lk (rq a0 a1) Yg [a0,a1]:=lk {keep:=kl [3,3,0,3]} Tryz.func244
theorem vH:Lk (mx a0 a1) Xq [a0,a1]:=lk {keep:=kl [3,12]} Tryz.func245
theorem Nw:Lk (GN a0 a1 a2) Z2 [a0,a1,a2]:=lk {keep:=kl [7,49,305,768]} Tryz.func246
theorem Oy:Lk (Hn a0 a1 a2) Z3 [a0,a1,a2]:=lk {keep:=kl [7,49,305,768]} Tryz.func247
theorem NA:Lk (Ga a0 a1 a2) Z4 [a0,a1,a2]:=lk {keep:=kl [7,49,305,768]} Tryz.func248
theorem LX:Lk (DK a0 a1 a2 a3) aaj [a0,a1,a2,a3]:=lk {keep:=kl [15,225,1249,3072]} Tryz.func249
theorem t8:Lk (lH a0 a1) XA [a0,a1]:=lk {keep:=kl [3,12]} Tryz.func250
theorem L2:Lk (Eo a0 a1 a2) aal [a0,a1,a2]:=lk {keep:=kl [7,49,1585,3584,2048,1536],plan:=dl [(5,.c [0,1,2,3,4])]} Tryz.func251
theorem Ly:Lk (Eb a0 a1 a2) aak [a0,a1,a2]:=lk {keep:=kl [7,49,305,768]} Tryz.func252
theorem wt:Lk (ot a0 a1 a2) abV [a0,a1,a2]:=lk {keep:=kl [7,7,129,128,1]} Tryz.func253
theorem wY:Lk (nL a0 a1 a2) abW [a0,a1,a2]:=lk {keep:=kl [7,21,913,1,913]} Tryz.func254
theorem N6:Lk (G8 a0 a1 a2 a3) aac [a0,a1,a2,a3]:=lk {keep:=kl [15,225,1249,3072]} Tryz.func255
theorem Oi:Lk (Hu a0 a1 a2) aae [a0,a1,a2]:=lk {keep:=kl [7,49,1585,3584,2048,1536],plan:=dl [(5,.c [0,1,2,3,4])]} Tryz.func256
theorem Og:Lk (Fq a0 a1 a2) aad [a0,a1,a2]:=lk {keep:=kl [7,49,305,768]} Tryz.func257
theorem Ke:Lk (BZ a0 a1 a2 a3) aaf [a0,a1,a2,a3]:=lk {keep:=kl [15,225,1249,3072,2048,1024]} Tryz.func258
theorem Ho:Lk (w7 a0 a1) Ys [a0,a1]:=lk {keep:=kl [3,3,0,3]} Tryz.func259
theorem BC:Lk (rI a0 a1 a2) Zp [a0,a1,a2]:=lk {keep:=kl [7,7,0,7]} Tryz.func260
theorem HQ:Lk (zq a0 a1) Zq [a0,a1]:=lk {keep:=kl [3,3,65,0,65,449,256,193,193,65]} Tryz.func261
theorem K1:Lk (Bi a0 a1) Zr [a0,a1]:=lk {keep:=kl [3,3,227,35,163,35,131,131,128],joinC:=fun | 3=>some ([0,1,5],[7]) | 5=>some ([0,1],[7]) | 7=>some ([7],[]) | _=>none} Tryz.func262
theorem vQ:Lk (mt a0) abX [a0]:=lk {keep:=kl [1,1,1,9,25,16,9,9,9,33,33,1,1],rest:=kl [0,1],plan:=dl [(8,.c [0,1,2,3,4,5,6,7,8])]} Tryz.func268
theorem yI:Lk (pd a0 a1) Yh [a0,a1]:=lk {keep:=kl [3,3,65,65]} Tryz.func269
theorem Ax:Lk (qT a0) XR [a0]:=lk {keep:=kl [1,1],plan:=dl [(1,.c [0,1,2,3,4,5,6,7,8,9,10,11,12])]} Tryz.func270
theorem yV:Lk (oR a0 a1 a2) Zs [a0,a1,a2]:=lk {keep:=kl [7,7,0,7,135,647,0,134]} Tryz.func271
theorem wj:Lk (nZ a0 a1) Zt [a0,a1]:=lk {keep:=kl [3,9]} Tryz.func272
theorem F3:Lk (wu a0 a1) abY [a0,a1]:=lk {keep:=kl [3,3]} Tryz.func279
theorem rT:Lk (j7 a0) acj [a0]:=lk {keep:=kl [1,1,1,1]} Tryz.func284
theorem K7:Lk (B4 a0 a1) ack [a0,a1]:=lk {keep:=kl [3,3,0,3]} Tryz.func290
theorem K4:Lk Bt acl []:=lk {} Tryz.func291
theorem tj:Lk (kI a0 a1 a2 a3) Yi [a0,a1,a2,a3]:=lk {keep:=kl [15,15,2,13,0,13],plan:=dl [(5,.c [0,1,2,3,5,6,388,7,72])]} Tryz.func292
theorem um:Lk (lu a0 a1) abZ [a0,a1]:=lk {keep:=kl [3,3]} Tryz.func293
theorem N4:Lk (Fh a0 a1 a2) Or [a0,a1,a2]:=lk {live:=fun|14=>[67]|_=>[],keep:=nl [[0,1,2],[0,1,2],[],[0,2],[0,2,7],[0,7],[0,7],[9],[0,7],[7],[0,7],[0,7,10],[10],[0,7],[0,65,66,67],[0,65,66,67],[0,12,65,66,67],[0,65,66,67]],rest:=fun|14=>[0,65,66]|_=>[]} Tryz.func294
theorem Ky:Lk (Bm a0 a1 a2 a3) Yx [a0,a1,a2,a3]:=lk {keep:=kl [15,109,109,237,233,169,8]} Tryz.func295
theorem Mb:Lk (Ep a0 a1 a2) XZ [a0,a1,a2]:=lk {live:=kl [0,0,192],keep:=kl [7,135,197,69,197,133,192],rest:=kl [0,0,5],joinB:=fun | 0=>some ([],[6,7]) | _=>none} Tryz.func296
theorem Dv:Lk (tu a0) LE [a0]:=lk {keep:=kl [1,1]} Tryz.func297
theorem KJ:Lk (Bg a0 a1 a2) XY [a0,a1,a2]:=lk {keep:=kl [7,7]} Tryz.func298
theorem yz:Lk (pg a0 a1) Xn [a0,a1]:=lk {keep:=kl [3,3,0,3,97,32]} Tryz.func299
theorem yE:Lk (o9 a0 a1 a2) GE [a0,a1,a2]:=lk {keep:=kl [7,7],joinC:=fun | 1=>some ([],[]) | _=>none} Tryz.func300
theorem yT:Lk (oU a0 a1 a2) go [a0,a1,a2]:=lk {keep:=kl [7]} Tryz.func301
theorem Kd:Lk (B1 a0 a1 a2 a3) Yy [a0,a1,a2,a3]:=lk {keep:=kl [15,109,105,73,8],joinC:=fun | 2=>some ([],[]) | _=>none} Tryz.func302
theorem z4:Lk (qm a0 a1) ge [a0,a1]:=lk {keep:=kl [3,3,0,3,97,32]} Tryz.func303
theorem Aq:Lk (pT a0 a1) XB [a0,a1]:=lk {keep:=kl [3,3],joinC:=fun | 1=>some ([],[]) | _=>none} Tryz.func304
theorem JX:Lk (BB a0 a1 a2 a3) Yz [a0,a1,a2,a3]:=lk {keep:=kl [15,77]} Tryz.func305
theorem HI:Lk (zj a0 a1 a2 a3 a4) YJ [a0,a1,a2,a3,a4]:=lk {keep:=kl [31,95,31,93,93,477,265,221,93,93,221,733,729,721,721,81,16],plan:=dl [(7,.c [0,65,2,3,4,5,6,7,8,9,10,11,12,13,14,15,16,17,18,19,20]),(15,.c [0,1,2,3,4,5,6,7,8,9,10,75])],joinC:=fun | 2=>some ([0,2,3,4],[6]) | 8=>some ([0,2,3,4,6],[7]) | _=>none} Tryz.func306
theorem Jz:Lk (Be a0 a1) X3 [a0,a1]:=lk {keep:=kl [3,3,33,32,33,33,97,33,33,97,32],joinC:=fun | 7=>some ([0,5],[6]) | _=>none} Tryz.func307
theorem Kl:Lk (A7 a0 a1) aag [a0,a1]:=lk {live:=kl [0,0,0,16384],keep:=kl [3,3,35,16419,16419,16483,16419,35,35,35,35,32],rest:=kl [0,0,0,35],plan:=dl [(9,.c [0,1,2,3,4,5,6,7,8,9,74])]} Tryz.func308
theorem AW:Lk (p9 a0 a1) XE [a0,a1]:=lk {live:=kl [0,0,16],keep:=kl [3,3,19,19,51,48,35,16],rest:=kl [0,0,3],plan:=dl [(1,.c [0,1,2,3,4,5,6,7,8,585,10,11])]} Tryz.func309
theorem AR:Lk (qq a0) aai [a0]:=lk {live:=fun|6=>[25]|_=>[],keep:=kl [1,2,6,14,30,30,58720278,58720278,58720374,58720278,22,22,22,18],rest:=kl [0,0,0,0,0,0,25165846],plan:=dl [(3,.c [0,1,2,3,4,69,6]),(10,.c [0,1,2,3,4,5,6,7,72]),(11,.c [0,1,2,3,4,5,198,7,8,73]),(12,.c [0,1,2,3,4,5,6,7,8,9,74]),(13,.c [0,1,2,3,4,5,6,7,8,9,74])]} Tryz.func310
theorem sa:Lk (j8 a0 a1 a2 a3 a4) Yj [a0,a1,a2,a3,a4]:=lk {keep:=kl [31,31,4,27,0,25],plan:=dl [(5,.c [0,1,2,3,4,5,6,71])]} Tryz.func311
theorem vN:Lk (lW a0) Zu [a0]:=lk {keep:=kl [1,1]} Tryz.func312
theorem H7:Lk (zx a0 a1 a2 a3 a4) YK [a0,a1,a2,a3,a4]:=lk {keep:=kl [31,93,93,281,281],joinC:=fun | 4=>some ([],[]) | _=>none} Tryz.func313
theorem HP:Lk (zr a0 a1 a2 a3) YL [a0,a1,a2,a3]:=lk {keep:=kl [15,45,45,233,233,169,137,8],plan:=dl [(5,.c [0,1,2,3,4,5,6,7,8,9,10,75])],joinC:=fun | 4=>some ([],[]) | _=>none} Tryz.func314
theorem JB:Lk (Bu a0 a1 a2) Z5 [a0,a1,a2]:=lk {keep:=kl [7,49]} Tryz.func315
theorem JC:Lk (Cr a0 a1) Z6 [a0,a1]:=lk {keep:=kl [3,9,393,896,512,384],plan:=dl [(5,.c [0,1,2,3,4])]} Tryz.func316
theorem J9:Lk (Cn a0 a1 a2 a3 a4) YD [a0,a1,a2,a3,a4]:=lk {keep:=kl [31,93,221,221,137,93,349,345,337,337,336,80,16]} Tryz.func317
theorem Dk:Lk (te a0 a1) X0 [a0,a1]:=lk {live:=kl [0,0,0,32],keep:=kl [3,3,3,35,35,99,32,99,227,35,163,163],rest:=kl [0,0,0,3],joinC:=fun | 9=>some ([0,1,5],[7]) | _=>none} Tryz.func318
theorem DF:Lk (sN a0 a1 a2) Xv [a0,a1,a2]:=lk {keep:=kl [7,5,7],plan:=dl [(1,.c [0,1,2,3,4,5,6,7,8,73]),(2,.c [0,1,2,3,4,5,6,7,8,9,10,11,12,13,14,15,16,17,18,19,84])]} Tryz.func319
theorem z6:Lk (qD a0) Z9 [a0]:=lk {keep:=kl [1,1,5,29,29,61,25,61,53,21,5,1,1],rest:=kl [1],plan:=dl [(2,.p (.take 0 1 (.take 1 3 (.take 2 7 (.take 3 15 (.take 4 31 (.take 5 63 (.take 6 127 (.take 7 255 (.take 8 511 (.take 9 1023 (.take 10 2047 (.take 11 4095 (.take 12 8191 (.take 13 16383 (.take 14 32767 (.take 15 65535 (.both (.run 16 [15,11,7,3] 131071 (.run 17 [15,11,7,3] 262143 (.run 18 [15,11] 524287 (.run 19 [] 1048575 .done)))) (.run 17 [15,11,7,3] 196607 (.run 16 [15,11,7,3] 262143 (.run 18 [15,11] 524287 (.run 19 [] 1048575 .done))))))))))))))))))))))],joinC:=fun | 12=>some ([],[]) | _=>none,joinB:=fun | 1=>some ([0],[]) | _=>none} Tryz.func320
theorem Kh:Lk (Cc a0 a1 a2 a3 a4) YE [a0,a1,a2,a3,a4]:=lk {keep:=kl [31,93,153,153],joinC:=fun | 3=>some ([],[]) | _=>none} Tryz.func321
theorem J7:Lk (Bh a0 a1 a2 a3) YF [a0,a1,a2,a3]:=lk {keep:=kl [15,45,105,104,8],joinC:=fun | 3=>some ([],[]) | _=>none} Tryz.func322
theorem EI:Lk (uO a0 a1) aab [a0,a1]:=lk {keep:=kl [3,3,19,19,17,3,35,3,35,99,3,99,35,35,3],plan:=dl [(2,.c [0,1,2,3,4,5,6,7,8,9,10,11,588,77]),(3,.c [0,1,2,3,4,5,6,7,8,9,10,11,588,77])],joinC:=fun | 1=>some ([0],[1]) | 7=>some ([0,1],[5]) | 12=>some ([0,1],[]) | 13=>some ([0,1],[]) | _=>none} Tryz.func323
theorem Hz:Lk (wg a0 a1 a2 a3 a4) YG [a0,a1,a2,a3,a4]:=lk {keep:=kl [31,92],plan:=dl [(1,.c [0,1,3,4,1602,69,70])]} Tryz.func324
theorem yr:Lk (ph a0 a1 a2 a3 a4) X2 [a0,a1,a2,a3,a4]:=lk {keep:=kl [31,31,16,31,2079,2079,2079,2079,2079,31,16],joinC:=fun | 5=>some ([0,1,2,3,11],[4]) | 7=>some ([0,1,2,3,11],[4]) | 9=>some ([],[4]) | _=>none} Tryz.func325
theorem ES:Lk (uJ a0) XD [a0]:=lk {keep:=kl [1,1],plan:=dl [(1,.c [0,1,2,3,4,5,6,7,72,9])]} Tryz.func326
theorem HR:Lk (zD a0) ab0 [a0]:=lk {live:=kl [0,0,0,0,8],keep:=kl [1,1,0,1,9,9,9,8],rest:=kl [0,0,0,0,1]} Tryz.func327
theorem Ia:Lk (ze a0 a1 a2) ab1 [a0,a1,a2]:=lk {keep:=kl [7,7,0,7,259,1795,771,1280,1024,256],joinC:=fun | 6=>some ([8],[10]) | _=>none} Tryz.func328
theorem HJ:Lk (zE a0 a1) ab2 [a0,a1]:=lk {keep:=kl [3,3,195,128,67,0,67,259,768,512,256]} Tryz.func329
theorem CZ:Lk (sj a0 a1) Zv [a0,a1]:=lk {keep:=kl [3]} Tryz.func330
theorem w8:Lk (ol a0) ab3 [a0]:=lk {live:=kl [0,0,0,32776],keep:=kl [1,1,9,57352,57352,57384,57352,8],rest:=kl [0,0,0,24576]} Tryz.func336
theorem jJ:Lk (fH a0 a1) ab4 [a0,a1]:=lk {live:=kl [0,0,256],keep:=kl [3,3,387,387,419,32,387],rest:=kl [0,0,131]} Tryz.func337
theorem t4:Lk (lD a0 a1) Zw [a0,a1]:=lk {keep:=kl [3,6]} Tryz.func338
theorem EP:Lk (uI a0) ab5 [a0]:=lk {keep:=kl [1,1]} Tryz.func344
theorem Oe:Lk (F7 a0) ab6 [a0]:=lk {live:=fun|3=>[14]|8=>[28]|_=>[],keep:=kl [1,1,9,28681,28681,28713,28681,9,469762056,469762056,469762184,469762056,8],rest:=kl [0,0,0,12297,0,0,0,0,201326600]} Tryz.func349
theorem zV:Lk (qI a0) Xo [a0]:=lk {keep:=kl [1,1,1,1,1],joinC:=fun | 3=>some ([0],[]) | _=>none} Tryz.func350
theorem yK:Lk (pe a0 a1) LT [a0,a1]:=lk {keep:=kl [3,3]} Tryz.func351
theorem At:Lk (qr a0 a1) Xh [a0,a1]:=lk {keep:=kl [3,3],joinC:=fun | 1=>some ([],[]) | _=>none} Tryz.func352
theorem HY:Lk (zw a0 a1) YH [a0,a1]:=lk {keep:=kl [3,3]} Tryz.func353
theorem Ar:Lk (qB a0 a1) aah [a0,a1]:=lk {live:=kl [0,2048,0,0,32],keep:=kl [3,3075,3075,3091,3107,3107,3171,3139,3075],rest:=kl [0,1027,0,0,3075],plan:=dl [(3,.c [0,1,2,3,4,5,6,7,8,9,74,11])]} Tryz.func354
theorem wq:Lk (oy a0 a1 a2 a3) YI [a0,a1,a2,a3]:=lk {keep:=kl [15,43,41],plan:=dl [(0,.c [0,1,2,3,4,5,7,8262,72,9]),(1,.c [0,1,2,3,4,5,6,7,8,9,74])]} Tryz.func355
theorem Hg:Lk (wT a0 a1 a2) YA [a0,a1,a2]:=lk {keep:=kl [7,55,21,55,39,55,53,117,113,113,81,81,81],joinC:=fun | 2=>some ([0,2],[4,5]) | 4=>some ([0,2,5],[4]) | 10=>some ([0,4,6],[]) | _=>none} Tryz.func356
theorem Gv:Lk (xe a0 a1 a2 a3) YB [a0,a1,a2,a3]:=lk {keep:=kl [15,45,45,109,109,97,65]} Tryz.func357
theorem Bx:Lk (rr a0 a1 a2) GT [a0,a1,a2]:=lk {keep:=kl [7,7,1,0,7,3,3],plan:=dl [(6,.c [0,1,2,3,4,5,6,7,8,9,586,11,76,13])]} Tryz.func358
theorem C7:Lk (tb a0 a1 a2 a3) Xt [a0,a1,a2,a3]:=lk {keep:=kl [15,11,11],plan:=dl [(2,.c [0,1,2,3,4,5,6,7,8,9,10,11,12,13,14,591,16,17,82])]} Tryz.func359
theorem EV:Lk (uF a0 a1) Nm [a0,a1]:=lk {keep:=kl [3,3]} Tryz.func360
theorem xh:Lk (nu a0 a1 a2) YC [a0,a1,a2]:=lk {keep:=kl [7,49,49,33,97,97,65],plan:=dl [(2,.c [0,1,2,3,4,5,6,7,8,9,1354,75])],joinC:=fun | 2=>some ([0,5],[]) | _=>none} Tryz.func361
theorem BS:Lk (rM a0 a1 a2) gt [a0,a1,a2]:=lk {keep:=kl [7,1,7,71,67],joinC:=fun | 4=>some ([],[]) | _=>none} Tryz.func362
theorem C5:Lk (sn a0 a1) Z8 [a0,a1]:=lk {live:=kl [0,0,0,2],keep:=kl [3,3,3,3,3,35,35,33,2],rest:=kl [0,0,0,1],joinB:=fun | 0=>some ([],[1]) | _=>none} Tryz.func363
theorem yJ:Lk (pn a0) aaa [a0]:=lk {keep:=kl [1,1,5,13,29,29,29,29,29,29,9,29,25,29,13,9,5],rest:=kl [1],plan:=dl [(9,.c [0,1,2,3,4,5,6,7,8,9,10,75]),(10,.c [0,1,2,3,4,5,1094,71,8,9,74])],joinB:=fun | 1=>some ([0],[]) | _=>none} Tryz.func364
theorem K5:Lk (Bw a0) Yk [a0]:=lk {keep:=kl [1,1,0,1]} Tryz.func365
theorem wJ:Lk (nQ a0 a1) ab7 [a0,a1]:=lk {keep:=kl [3,18]} Tryz.func366
theorem yN:Lk (oX a0) ab8 [a0]:=lk {keep:=kl [1,1]} Tryz.func368
theorem AC:Lk (qj a0 a1) Zx [a0,a1]:=lk {keep:=kl [3,3,1,0,2]} Tryz.func372
theorem Dt:Lk (sk a0 a1 a2) Xu [a0,a1,a2]:=lk {keep:=kl [7,7,135,135,128]} Tryz.func373
theorem DI:Lk (sL a0 a1 a2) Z7 [a0,a1,a2]:=lk {keep:=kl [7,21,21,85,85,85,81,21,21,21,21,5],joinC:=fun | 2=>some ([0,4],[2]) | _=>none} Tryz.func374
theorem Do:Lk (sQ a0) aaq [a0]:=lk {keep:=kl [1,1]} Tryz.func398
theorem AX:Lk (qP a0) aao [a0]:=lk {keep:=kl [1,5,4,5,5,5]} Tryz.func399
theorem AH:Lk (qt a0 a1) aap [a0,a1]:=lk {keep:=kl [3,9,9,9,9,9,1],plan:=dl [(2,.c [0,1,2,3,68,5]),(5,.c [0,1,2,3,4,5,6,7,8,9,10,11,12,13,14])],joinC:=fun | 3=>some ([],[]) | 4=>some ([],[]) | 6=>some ([],[]) | _=>none} Tryz.func400
theorem ug:Lk (lO a0) Yl [a0]:=lk {keep:=kl [1,1]} Tryz.func401
theorem px:Lk (i4 a0 a1) Ym [a0,a1]:=lk {keep:=kl [3,9,9,1],joinC:=fun | 2=>some ([0],[]) | _=>none} Tryz.func402
theorem rS:Lk (jV a0 a1 a2 a3) Xi [a0,a1,a2,a3]:=lk {keep:=kl [15]} Tryz.func403
theorem yP:Lk (pf a0 a1) ab9 [a0,a1]:=lk {keep:=kl [3,9,9,9,9,9,9,1],plan:=dl [(4,.c [0,1,2,3,68,5]),(5,.c [0,1,2,3,4,69]),(6,.c [0,1,2,3,4,5,6,7])],joinC:=fun | 4=>some ([],[]) | 5=>some ([],[]) | 7=>some ([],[]) | _=>none} Tryz.func404
theorem q7:Lk (jC a0 a1) Yn [a0,a1]:=lk {keep:=kl [3,9,0,1,1],plan:=dl [(1,.c [0,1,2,3,4,5,6])]} Tryz.func405
theorem AJ:Lk (pY a0) aat [a0]:=lk {keep:=kl [1,1]} Tryz.func406
theorem wC:Lk (n9 a0) aar [a0]:=lk {keep:=kl [1,5,4,5,4,5],plan:=dl [(5,.c [0,1,2,3,4,5,6,7,8,9,10,11,76,13])]} Tryz.func407
theorem xN:Lk (nM a0 a1) aas [a0,a1]:=lk {keep:=kl [3,1,9,9,9,9,9,9,9,1,1,1],plan:=dl [(2,.c [0,1,2,3,68,5]),(10,.c [0,1,2,3,4,5,6,7,8,9]),(4,.c [0,1,2,3,4,5,582,7,8,73]),(6,.c [0,1,2,3,4,69,6]),(7,.c [0,1,2,3,4,5,70]),(8,.c [0,1,2,3,4,5,6,7,8,9,10,11,12,13,14,15])],joinC:=fun | 4=>some ([0],[]) | 7=>some ([],[]) | 11=>some ([],[]) | _=>none} Tryz.func408
theorem Ad:Lk (p7 a0) aaw [a0]:=lk {keep:=kl [1,1]} Tryz.func409
theorem we:Lk (nV a0) aau [a0]:=lk {keep:=kl [1,5,4,5,16389,5,16389,5,21,16389,4,16389,5,16389,5,16389,5,16389,5,5],plan:=dl [(5,.c [0,1,2,3,4,5,6,7,8,9,10,11,76,13]),(7,.c [0,1,2,3,4,5,6,7,8,9,17482,75]),(8,.c [0,1,2,3,4,5,6,7,8,9,10,11,12,13,14,15,16,81,18]),(12,.c [0,1,2,3,4,5,6,7,8,9,74,11]),(14,.c [0,1,2,3,4,5,6,7,8,9,10,11,76,13]),(16,.c [0,1,2,3,4,5,6,7,8,9,10,11,12,13,14,15,16,17,18,19,20,21,22,87,24]),(18,.c [0,1,2,3,4,5,6,7,8,9,10,11,12,13,14,15,16,81,18]),(19,.c [0,1,2,3,4,5,6,7,8,9,10,11,12,13,14,15,16,17,18,19,20,85,22])]} Tryz.func410
theorem wo:Lk (og a0 a1) aav [a0,a1]:=lk {keep:=kl [3,9,9,4105,4105,9,4105,4105,9,4105,9,4097,1,1,4097,1,1,4097,1,1],plan:=dl [(1,.c [0,1,2,3,68])],joinC:=fun | 4=>some ([0,3,12],[13]) | 5=>some ([],[]) | 7=>some ([0,3,12],[19]) | 8=>some ([],[]) | 10=>some ([],[]) | 12=>some ([],[]) | 15=>some ([],[]) | 18=>some ([],[]) | _=>none} Tryz.func411
theorem vi:Lk (l8 a0) Zy [a0]:=lk {keep:=kl [1,1]} Tryz.func412
theorem wQ:Lk (nY a0 a1) aca [a0,a1]:=lk {keep:=kl [3,1,9,9,9,9,9,1,1],plan:=dl [(7,.c [0,1,2,3,4,5,6,7,8,1097,74,11,12,77])],joinC:=fun | 3=>some ([],[]) | 5=>some ([],[]) | 7=>some ([],[]) | _=>none} Tryz.func413
theorem uU:Lk (l7 a0 a1) acb [a0,a1]:=lk {keep:=kl [3,1,9,1,9,9,9,1,1,1],plan:=dl [(8,.c [0,1,2,3,4,5,6,7,8,9])],joinC:=fun | 3=>some ([],[]) | 5=>some ([],[]) | 7=>some ([],[]) | 9=>some ([],[]) | _=>none} Tryz.func414
theorem ue:Lk (lf a0 a1) acd [a0,a1]:=lk {keep:=kl [3,1,1,9,9,9,1],plan:=dl [(5,.c [0,1,2,3,4,5,6,7,8,9,10,11,12,13,14])],joinC:=fun | 4=>some ([],[]) | 6=>some ([],[]) | _=>none} Tryz.func415
theorem vz:Lk (lY a0) Zz [a0]:=lk {keep:=kl [1,1,1],plan:=dl [(0,.c [0,1,2,3,4,5,6,7,8,9])],joinC:=fun | 1=>some ([],[]) | _=>none} Tryz.func416
theorem xk:Lk (nX a0) ZA [a0]:=lk {keep:=kl [1,1],plan:=dl [(0,.c [0,1,2,3,4,5,6,7,8,9])],joinC:=fun | 1=>some ([],[]) | _=>none} Tryz.func417
theorem vP:Lk (lX a0) ZB [a0]:=lk {keep:=kl [1,1],plan:=dl [(0,.c [0,1,2,3,4,5,6,7,8,9]),(1,.c [0,1,2,3,4,5,6,7,8,9,10,11,12,13,14,79])],joinC:=fun | 1=>some ([],[]) | _=>none} Tryz.func418
theorem xA:Lk (n7 a0 a1) ZC [a0,a1]:=lk {keep:=kl [3,9,9],plan:=dl [(1,.c [0,1,2,3,68,5])],joinC:=fun | 2=>some ([],[]) | _=>none} Tryz.func419
theorem vX:Lk (oo a0 a1 a2 a3) XS [a0,a1,a2,a3]:=lk {keep:=kl [15,1,1]} Tryz.func420
theorem uX:Lk (mm a0) ZD [a0]:=lk {keep:=kl [1,1,1,1,13,5,1,1],rest:=kl [0,1],plan:=dl [(1,.c [0,1,2,3,4,5,6,7,8,9]),(3,.c [0,1,2,3,4,5,6,7,8,9,10,11,12,13,14,79,16,17,18,19,20]),(5,.c [0,1,2,3,4,5,6,7,8,9,10,11,12,13,14,15,16,17,18,19])]} Tryz.func421
theorem nU:Lk (hC a0 a1) ace [a0,a1]:=lk {live:=kl [0,0,0,384],keep:=kl [3,3,67,451,451,963,835,707,195],rest:=kl [0,0,0,67],joinC:=fun | 6=>some ([0,1,6],[7,8]) | _=>none} Tryz.func422
theorem Ao:Lk (ql a0) acf [a0]:=lk {keep:=kl [1,1]} Tryz.func423
end
end Go.Proofs.YtoealglbimbbmaaGreatDoor.S
