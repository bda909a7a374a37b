import Derived.Test.YtoealglbimbbmaaGreatDoorSPoint
import Derived.Test.YtoealglbimbbmaaGreatDoorSEq
import Derived.Test.YtoealglbimbbmaaGreatDoorProg
import Derived.KernelRfl
namespace Go.Proofs.YtoealglbimbbmaaGreatDoor.S
open Go Go.Proofs
set_option linter.unusedVariables false
set_option maxRecDepth 100000
noncomputable def Tl:An:={ P:=Tryz.prog,eqs:=fun | 59=>some [.i .u64,.b,.i .i64] | _=>none }
theorem FX:Tl.OK:=by
 refine⟨fun t ks h=>?_,by kernel_rfl⟩
 unfold Tl at h
 simp only at h
 split at h
 ·cases h;exact RE 9 (by kernel_rfl) (by kernel_rfl) (by decide) (by kernel_rfl)
 ·cases h
abbrev Lk (S:KV→World→Prop)(f:FuncId)(args:List Value):Prop:=∀⦃K:KV⦄ ⦃w0:bh⦄ ⦃L:List ay⦄,G w0 L (S K)→G w0 L (CP Tryz.prog f args K)
theorem lk (N:pM){f:FuncId}{fn:Func}{args:List Value}{S:KV→World→Prop}(hf:Tryz.prog.funcs[f]? = some fn)(hn:(fn.name == "runtime.NumGoroutine")=false:=by kernel_rfl) (hE:∀K w,S K w=Ke Tl N fn args K w:=by intro K w;kernel_rfl):Lk S f args:=fun _ _ _ h w hw=>wM FX N hf hn (Eq.mp (hE _ w) (h w hw))
noncomputable def nl (l:List (List Nat)):Nat→List Nat:=List.rec (motive:=fun _=>Nat→List Nat) (fun _=>[]) (fun a _ ih n=>Nat.rec (motive:=fun _=>List Nat) a (fun m _=>ih m) n) l
noncomputable def kl (l:List Nat):Nat→List Nat:=fun n=>P6 64 0 (List.rec (motive:=fun _=>Nat→Nat) (fun _=>0) (fun a _ ih n=>Nat.rec (motive:=fun _=>Nat) a (fun m _=>ih m) n) l n)
noncomputable def dl (l:List (Nat×Ee)):Nat→Ee:=List.rec (motive:=fun _=>Nat→Ee) (fun _=>.c []) (fun p _ ih n=>cond (Nat.beq p.1 n) p.2 (ih n)) l
section
variable {a0 a1 a2 a3 a4 a5 a6 a7 a8 a9:Value}{K:KV}{w0:bh}{L:List ay}
theorem Fs:Lk (wF a0 a1 a2) W0 [a0,a1,a2]:=lk {live:=fun|8=>[9]|11=>[10]|_=>[],keep:=kl [7,14,0,14,132,0,132,388,900,900,900,1924,1924,1924,1924,0,384],rest:=kl [0,0,0,0,0,0,0,0,388,0,0,900],plan:=dl [(13,.c [0,1,2,3,4,5,7,8,9,10,11,131142,76])]} Tryz.func3
theorem K0:Lk C8 Xu []:=lk {live:=kl [0,0,0,0,0,4],keep:=kl [0,0,2,0,2,6,6,6,2,26],rest:=kl [0,0,0,0,0,2]} Tryz.func9
theorem GS:Lk (yE a0 a1) Wb [a0,a1]:=lk {live:=fun|6=>[32]|12=>[51]|_=>[],keep:=kl [3,6,6,6,6,38,7516192806,7516192806,7516192998,7516192998,7516192806,38,3377699720527910,3377699720527910,3377699720528166,3377699720528678,3377699720528166,3377699720528678,3377699720527910,32],rest:=fun|6=>[1,2,5,30,31]|12=>[1,2,5,50]|_=>[],plan:=dl [(4,.c [0,1,2,131,4,69,6]),(17,.c [0,1,2,3,4,5,6,7,1096,1097,74,11,12,77])],joinC:=fun | 9=>some ([1,2,5,30,31,32],[]) | 16=>some ([1,2,5,8,50,51],[9]) | _=>none} Tryz.func10
theorem zv:Lk (qY a0) Xv [a0]:=lk {keep:=kl [1,6,14,12],plan:=dl [(1,.p (.take 0 1 (.take 1 3 (.take 3 11 (.take 4 27 (.take 6 91 (.take 7 219 (.both (.run 2 [7,4] 223 (.both (.run 5 [7] 255 (.both (.run 8 [] 511 (.take 9 1023 (.run 10 [] 2047 (.run 11 [] 4095 .done)))) (.run 10 [7] 1279 (.run 8 [] 1535 (.take 9 2047 (.run 11 [] 4095 .done)))))) (.run 10 [7,4] 1247 (.run 5 [7] 1279 (.run 8 [] 1535 (.take 9 2047 (.run 11 [] 4095 .done))))))) (.run 10 [7,4,1] 1243 (.run 2 [7,4] 1247 (.run 5 [7] 1279 (.run 8 [] 1535 (.take 9 2047 (.run 11 [] 4095 .done)))))))))))))),(2,.c [0,1,3,4,6,7,9,10,11,74818,73797,65608,12,13,78])]} Tryz.func11
theorem ET:Lk (wE a0 a1 a2) Xw [a0,a1,a2]:=lk {live:=kl [0,0,0,384,0,0,0,1536],keep:=kl [7,7,135,391,391,391,903,1927,1927,1927,903,128],rest:=kl [0,0,0,7,0,0,0,391]} Tryz.func12
theorem sZ:Lk (lq a0) Wc [a0]:=lk {keep:=kl [1,1]} Tryz.func13
theorem LL:Lk (E5 a0 a1 a2) Xx [a0,a1,a2]:=lk {keep:=kl [6,20]} Tryz.func14
theorem tT:Lk (lV a0 a1 a2) VE [a0,a1,a2]:=lk {live:=fun|13=>[80]|_=>[],keep:=nl [[0,1,2],[0,1,2],[],[0,1,2],[0,1,2],[0,1,2,7],[0,1,2,7],[7],[],[0,1,2,7],[0,1],[],[0,1],[0,1,78,79,80],[0,1,78,79,80],[0,1,8,9,78,79,80],[0,1,9,78,79,80],[0,1,78,79,80]],rest:=fun|13=>[0,1,78,79]|_=>[],plan:=dl [(9,.c [0,1,2,3,4,5,6,7,8,10,11,12,13,14,1048649,79]),(16,.c [0,1,2,3,4,5,6,7,8,9,10,11,76])],joinC:=fun | 16=>some ([0,1,78,79,80],[]) | _=>none} Tryz.func15
theorem OO:Lk (HL a0 a1) Xy [a0,a1]:=lk {keep:=kl [3,9],plan:=dl [(1,.c [0,1,2,195,4,5,70,7])]} Tryz.func16
theorem Gw:Lk (za a0 a1) Vh [a0,a1]:=lk {keep:=kl [3,3,33]} Tryz.func17
theorem qp:Lk (jB a0) We [a0]:=lk {live:=kl [0,0,0,2056],keep:=kl [1,1,9,3592,3592,3624,3592,8],rest:=kl [0,0,0,1536]} Tryz.func21
theorem LW:Lk (En a0) Xz [a0]:=lk {keep:=kl [1,5]} Tryz.func25
theorem rg:Lk (jV a0 a1) XA [a0,a1]:=lk {keep:=kl [3,3,32,32]} Tryz.func27
noncomputable def sW:pM:={ live:=fun | 29=>[7,8] | 4=>[7,8,9] | _=>[],keep:=fun | 0=>[0,1,2] | 1=>[0,1,2,6] | 2=>[0,1,2,6,7] | 3=>[0,1,2,6,7,8] | 29=>[6,7,8] | 30=>[6,7,8] | 31=>[6,7] | 33=>[6,7] | 32=>[6,7] | 4=>[0,1,2,6,7,8,9] | 6=>[0,1,2,6,7,8,9] | 7=>[0,1,2,6,7,8,9,10] | 8=>[0,1,2,6,7,8,9,10,11] | 9=>[0,1,2,6,7,8,9,10,11] | 11=>[0,1,2,6,7,8,9,10,11,12] | 5=>[0,1,2,6,7,8,9] | 12=>[0,1,2,6,7,8,9] | 13=>[0,1,2,6,7,8,9,10,11,12] | 14=>[0,1,2,6,7,8,9] | 15=>[0,1,2,6,7,8,9,10,11,12] | 16=>[0,1,2,6,7,8,9] | 17=>[0,1,2,6,7,8,9,10,11,12] | 18=>[0,1,2,6,7,8,9] | 19=>[0,1,2,6,7,8,9,10,11,12] | 20=>[0,1,2,6,7,8,9,10] | 21=>[0,1,2,6,7,8,9,10,12] | 22=>[0,1,2,6,7,8,9,10] | 23=>[0,1,2,6,7,8,9,10,12] | 24=>[0,1,2,6,7,8,9,10] | 25=>[0,1,2,6,7,8,9,10,12] | 26=>[0,1,2,6,7,8,9,10] | 27=>[0,1,2,6,7,8,9,10,12] | 28=>[0,1,2,6,7,8,9,10] | 10=>[0,1,2,6,7,8,9,10] | _=>[],rest:=fun | 29=>[6] | 4=>[0,1,2,6] | _=>[],plan:=fun | 26=>.c [0,1,2,4,5,6,8,16451,7,73,74,75,12] | 28=>.c [0,1,3,4,6,7,1090,69,8,73,74,11] | _=>.c [],joinC:=fun | 12=>some ([0,1,2,6,9],[7,8]) | 14=>some ([0,1,2,6,9],[7,8]) | 16=>some ([0,1,2,6,9],[7,8]) | 18=>some ([0,1,2,6,8,9],[7]) | 20=>some ([0,1,2,6,8,9],[7]) | 22=>some ([0,1,2,6,8,9],[7]) | 24=>some ([0,1,2,6,8,9],[7]) | 26=>some ([0,1,2,6,8,9],[7]) | 28=>some ([0,1,2,6,8,9],[7]) | 32=>some ([6],[7]) | _=>none,joinB:=fun | 0=>some ([6],[7,8]) | _=>none }
theorem B7 (a0 a1 a2:Value)(K:KV)(w:World):nq a0 a1 a2 K w=Ke Tl sW Tryz.f29 [a0,a1,a2] K w:=by kernel_rfl
theorem CS {a0 a1 a2:Value}{K:KV}{w0:bh}{L:List ay}(h:G w0 L (jN a0 a1 a2 K)):G w0 L (CP Tryz.prog XB [a0,a1,a2] K):=fun w hw=>wM FX sW Tryz.func29 (by kernel_rfl) (Eq.mp (B7 a0 a1 a2 K w) (Eq.mp (congrFun (CN a0 a1 a2 K) w) (h w hw)))
theorem GB:Lk (zm a0 a1 a2) dg [a0,a1,a2]:=lk {keep:=kl [7,7,7,7,3],joinC:=fun | 3=>some ([1],[0]) | _=>none} Tryz.func30
theorem q9:Lk (jZ a0) XC [a0]:=lk {keep:=kl [1,1]} Tryz.func31
theorem tf:Lk (lB a0) XD [a0]:=lk {live:=kl [0,0,2048],keep:=kl [1,1,3584,3584,3600,3616,0,3584],rest:=kl [0,0,1536]} Tryz.func36
theorem FK:Lk (xG a0) VF [a0]:=lk {keep:=kl [1,6],plan:=dl [(1,.c [0,1,3,4,5,6,7,8,9,10,11,12,13,14,279618,15,80])]} Tryz.func37
theorem Oc:Lk (Hc a0) XE [a0]:=lk {keep:=kl [1,2,2],plan:=dl [(2,.c [0,1,2,4,5,6,7,9,10,12,13,600195,589960,524427,142,15,80,17])]} Tryz.func38
theorem Gq:Lk (yW a0) XF [a0]:=lk {keep:=kl [1,1,8,8]} Tryz.func39
theorem Jl:Lk (Bl a0 a1) Wf [a0,a1]:=lk {keep:=kl [3,25,49,49,48],joinC:=fun | 3=>some ([4,5],[]) | _=>none} Tryz.func40
theorem Jd:Lk (BH a0 a1 a2) XG [a0,a1,a2]:=lk {live:=fun|4=>[29]|_=>[],keep:=kl [7,21,21,132,939524224,939524224,939524736,939524224,128,128],rest:=kl [0,0,0,0,402653312],plan:=dl [(2,.c [0,1,2,3,4,5,6,7,8776,9,74,11]),(6,.c [0,1,2,3,4,5,6,1095,8,1097,74,11,12,77])]} Tryz.func41
theorem DC:Lk (uw a0) XH [a0]:=lk {keep:=kl [1,1]} Tryz.func42
theorem xh:Lk (o8 a0) XI [a0]:=lk {keep:=kl [1,5,133,5,133,5,133,5,4]} Tryz.func43
theorem va:Lk (mR a0) W1 [a0]:=lk {keep:=kl [1,1,1,1],joinC:=fun | 3=>some ([],[]) | _=>none} Tryz.func44
theorem wV:Lk (oP a0 a1 a2 a3) XJ [a0,a1,a2,a3]:=lk {keep:=kl [15,45,32813,45,557,525,2573,13,13,13,32805,37,32801,33,33,33],plan:=dl [(4,.c [0,1,2,3,4,69])],joinC:=fun | 3=>some ([],[]) | 7=>some ([0,2,3],[]) | 9=>some ([],[]) | 11=>some ([],[]) | 13=>some ([],[]) | 14=>some ([0,5],[]) | _=>none} Tryz.func45
theorem vN:Lk (oE a0 a1 a2) W9 [a0,a1,a2]:=lk {live:=kl [0,0,524288],keep:=kl [7,7,917511,917511,917639,1,1,1,1,917511],rest:=kl [0,0,393223],joinC:=fun | 6=>some ([],[]) | 8=>some ([],[]) | _=>none} Tryz.func46
theorem Gr:Lk (yR a0) WT [a0]:=lk {live:=kl [0,0,0,16,0,0,32],keep:=kl [1,1,9,25,25,25,57,57,57,249],rest:=kl [0,0,0,9,0,0,25],plan:=dl [(8,.p (.take 0 1 (.take 1 3 (.take 2 7 (.take 3 15 (.take 4 31 (.take 5 63 (.take 6 127 (.take 7 255 (.take 8 511 (.take 9 1023 (.take 10 2047 (.take 11 4095 (.take 12 8191 (.take 13 16383 (.both (.run 14 [13,11,6,4] 32767 (.run 15 [13,11,6,4] 65535 (.run 16 [13,11] 131071 (.run 17 [] 262143 .done)))) (.run 15 [13,11,6,4] 49151 (.run 14 [13,11,6,4] 65535 (.run 16 [13,11] 131071 (.run 17 [] 262143 .done))))))))))))))))))))],joinB:=fun | 3=>some ([0,3,4,5],[]) | _=>none} Tryz.func47
theorem Ip:Lk (Ba a0 a1) WY [a0,a1]:=lk {live:=fun|4=>[6,7]|8=>[9]|_=>[],keep:=kl [3,3,35,98,226,226,226,482,994,994,994,2018,0,482,482],rest:=kl [0,0,0,0,34,0,0,0,482],plan:=dl [(11,.c [0,1,2,3,4,5,6,7,8,9,10,11,12,13,14,15,16,17,18,19,20])],joinC:=fun | 14=>some ([1,5,7],[6]) | _=>none} Tryz.func48
theorem rW:Lk (kF a0) XK [a0]:=lk {live:=kl [0,0,0,8200],keep:=kl [1,1,9,14345,14345,14377,14345,9,9,137,9,8],rest:=kl [0,0,0,6145],joinC:=fun | 8=>some ([],[3]) | 10=>some ([],[3]) | _=>none} Tryz.func52
theorem Gk:Lk (zk a0) VV [a0]:=lk {live:=kl [0,0,0,24,0,0,32],keep:=kl [1,1,9,25,25,25,57,57,57,8],rest:=kl [0,0,0,1,0,0,25],plan:=dl [(6,.c [0,1,2,3,4,5,6,7,8,9,10,11,12,13,14,79,16]),(8,.p (.take 0 1 (.take 1 3 (.take 2 7 (.take 4 23 (.take 7 151 (.take 8 407 (.take 9 919 (.both (.run 3 [] 927 (.run 5 [] 959 (.run 6 [] 1023 (.run 10 [] 2047 (.take 11 4095 .done))))) (.run 5 [] 951 (.run 3 [] 959 (.run 6 [] 1023 (.run 10 [] 2047 (.take 11 4095 .done))))))))))))))],joinB:=fun | 1=>some ([0,4],[3]) | _=>none} Tryz.func53
theorem G4:Lk (yU a0 a1) VW [a0,a1]:=lk {live:=fun|4=>[7]|8=>[8]|_=>[],keep:=kl [3,3,34,98,226,226,226,98,354,354,354,354,64],rest:=kl [0,0,0,0,98,0,0,0,98],plan:=dl [(6,.c [0,1,2,3,4,5,6,7,8,9,10,11,12,13,14,15,16,17,82]),(11,.c [0,1,2,3,4,5,6,7,8,9,10,11,76])],joinC:=fun | 11=>some ([1,5,6,8],[]) | _=>none} Tryz.func54
theorem wJ:Lk (oN a0 a1) Ze [a0,a1]:=lk {keep:=kl [3,3,0,3]} Tryz.func57
theorem sO:Lk (lA a0) W8 [a0]:=lk {keep:=kl [1,1]} Tryz.func58
theorem Jy:Lk (Dr a0 a1) Vd [a0,a1]:=lk {keep:=kl [3,3,67,16451,67,16451,67,129,67],plan:=dl [(4,.c [0,1,4,5,6,66,67,7,8]),(8,.c [0,1,4,5,6,66,67,7,8])]} Tryz.func60
theorem LO:Lk (EN a0) ge [a0]:=lk {keep:=kl [1,1]} Tryz.func61
theorem Gn:Lk (ze a0) L8 [a0]:=lk {keep:=kl [1,6,62,126,254,4194558,4194558,14,4194558,14,4194558,28,4194558,62,4194526,4194526,4194526,204,4194526,4194526,4194526,212,4194526,30,4194526,30,4194524,4194524,28,4194508,12,4194508,204,12],plan:=dl [(1,.c [0,1,3,4,6,7,9282,8261,72,9,10,11])],joinC:=fun | 6=>some ([1,2,3,4,5,6,7,22],[23]) | 15=>some ([1,2,3,4,6,7,22],[54]) | 16=>some ([1,2,3,4,6,7,22],[54]) | 19=>some ([1,2,3,4,6,7,22],[62]) | 20=>some ([1,2,3,4,6,7,22],[62]) | 27=>some ([2,3,4,6,7,22],[86]) | _=>none} Tryz.func62
theorem uH:Lk (mM a0) W7 [a0]:=lk {keep:=kl [1,1]} Tryz.func63
theorem Lh:Lk (Fo a0) Wg [a0]:=lk {keep:=kl [1,6]} Tryz.func65
theorem LA:Lk (Ek a0) Xk [a0]:=lk {keep:=kl [1,1]} Tryz.func66
theorem IC:Lk (AX a0 a1) XL [a0,a1]:=lk {keep:=kl [3,3],plan:=dl [(1,.p (.take 0 1 (.take 3 9 (.run 1 [] 11 (.both (.run 2 [] 15 (.run 4 [] 31 (.take 5 63 (.run 6 [] 127 (.take 7 255 .done))))) (.run 4 [] 27 (.run 2 [] 31 (.take 5 63 (.run 6 [] 127 (.take 7 255 .done))))))))))]} Tryz.func67
theorem Kc:Lk (Do a0) XM [a0]:=lk {keep:=kl [1,1]} Tryz.func68
theorem Kf:Lk (Dz a0) Xp [a0]:=lk {keep:=kl [1,1]} Tryz.func69
theorem IB:Lk (Bv a0 a1) XN [a0,a1]:=lk {keep:=kl [3,25,57,48,185,57,185,57,185,57,185,57,185,57,185,49,185,57,185,57,185,57,48],plan:=dl [(5,.c [0,1,2,3,4,5,70,7,8,9,10,75,12,77]),(7,.c [0,1,2,3,4,5,6,7,72,9,74]),(9,.c [0,1,2,3,4,5,70,7,8,9,10,75,12,77]),(11,.c [0,1,2,3,4,5,6,7,8,9,74,11,12,13,14,79,16,81]),(13,.c [0,1,2,3,4,5,6,7,72,9,74]),(17,.c [0,1,2,3,4,5,6,7,72,9,10,11,12,77,14,79]),(19,.c [0,1,2,3,4,5,70,7,8,9,10,75,12,77]),(21,.c [0,1,2,3,4,5,6,7,72,9,74])],joinC:=fun | 5=>some ([4,5],[]) | 7=>some ([4,5],[]) | 9=>some ([4,5],[]) | 11=>some ([4,5],[]) | 13=>some ([4,5],[]) | 15=>some ([4,5],[]) | 17=>some ([4,5],[]) | 19=>some ([4,5],[]) | 21=>some ([4,5],[]) | _=>none} Tryz.func70
theorem K5:Lk C4 Xs []:=lk {} Tryz.func71
theorem nF:Lk (nL a0) XO [a0]:=lk {keep:=kl [1,1,0,1]} Tryz.func72
theorem ra:Lk (jY a0) Vb [a0]:=lk {keep:=kl [1,1,1]} Tryz.func73
theorem DQ:Lk (uG a0) Xl [a0]:=lk {keep:=kl [1,1]} Tryz.func74
theorem tQ:Lk (mg a0) XP [a0]:=lk {keep:=kl [1,5,133,5,133,4,133,5,133,5,133,4,5],plan:=dl [(7,.c [0,1,2,3,4,5,6,7,8,9,74,11])]} Tryz.func75
theorem vu:Lk (mS a0) LE [a0]:=lk {live:=fun|7=>[2,62]|_=>[],keep:=kl [1,1,1,1,1,1,5,8070450532247928837,8070450532247928837,8070450532247928853,8070450532247928837,5,1],rest:=fun|7=>[0,60,61]|_=>[],plan:=dl [(2,.c [0,1,2,3,4,5,6,7,8,9,10]),(11,.c [0,1,2,3,4,5,6,7,8,9,74,11,12,77]),(1,.c [0,1,2,3,4,5,6,7,8,9,10,11,12,13,14,15,16,17,18,83,20,21,86])],joinC:=fun | 5=>some ([0],[]) | _=>none} Tryz.func76
theorem sR:Lk (lj a0) Vk [a0]:=lk {keep:=kl [1,1],plan:=dl [(1,.c [0,1,2,3,4,5,6,7,8,9])]} Tryz.func77
theorem tL:Lk (lY a0 a1) XQ [a0,a1]:=lk {keep:=kl [3,9,9,9,1,9,9,1,4194313,1,4194313,9,1,4194313,1,4194313,1],plan:=dl [(11,.c [0,1,2,3,4,5,6,7,8,5193,10,11,4172,13,14,79]),(6,.c [0,1,2,3,4,69])],joinC:=fun | 9=>some ([],[]) | 11=>some ([],[]) | 14=>some ([],[]) | 16=>some ([],[]) | _=>none} Tryz.func78
theorem vz:Lk (mN a0) GE [a0]:=lk {keep:=kl [1,1,0,1]} Tryz.func79
theorem uI:Lk (m5 a0 a1 a2) V1 [a0,a1,a2]:=lk {keep:=kl [7,71,67,65,65,1,67,67,67,65,3,65,1,1,1,65,65],plan:=dl [(1,.c [0,1,2,3,4,5,6,1095,1096,73,10,11,76]),(8,.c [0,65,2,3,4,6,7,8,9,10,11,131141,12,13]),(3,.c [0,1,2,3,4,5,7,9,11,1094,1096,1098,1100,13,1102,79,16,17,82]),(4,.c [0,1,2,3,4,6,581,583,72])],joinC:=fun | 7=>some ([],[]) | 12=>some ([],[]) | 16=>some ([],[]) | _=>none} Tryz.func80
theorem uV:Lk (mZ a0 a1 a2) W2 [a0,a1,a2]:=lk {keep:=kl [7,21,17,5],plan:=dl [(1,.c [0,1,2,3,4,5,6,7,8,9,10,11,12,13,14,15,16,17,18,19,20,21,22,23]),(2,.c [0,1,2,3,4,5,582,7,8,73])]} Tryz.func81
theorem ug:Lk (lF a0 a1) W4 [a0,a1]:=lk {keep:=kl [3,1]} Tryz.func82
theorem tV:Lk (lL a0) XR [a0]:=lk {keep:=kl [1,1]} Tryz.func83
theorem qo:Lk (jr a0) XS [a0]:=lk {keep:=kl [1,1]} Tryz.func84
theorem DR:Lk (uF a0) XT [a0]:=lk {keep:=kl [1,6,6],plan:=dl [(1,.c [0,1,3,4,6,7,9282,9,8261,72,74,11,76,13,78])]} Tryz.func86
theorem wO:Lk (oK a0 a1) VZ [a0,a1]:=lk {keep:=kl [3,19,51,115,371,115,371],plan:=dl [(6,.c [0,1,2,3,4,5,6,7,8,9,10,11,12,13,14,15,16,17,18,19,21,22,24,25,26,27,28,29,31,33,35,8598594132,8598594135,8598594142,8598594144,8598594146,8598594148,37,102])],joinC:=fun | 5=>some ([0,1,4,5,6],[8]) | _=>none} Tryz.func87
theorem Jh:Lk (AH a0 a1) WS [a0,a1]:=lk {keep:=kl [3,12,12,12,4,12],plan:=dl [(3,.c [0,2,321,67,4])]} Tryz.func88
theorem IR:Lk (AD a0 a1) WW [a0,a1]:=lk {live:=kl [0,0,0,64],keep:=kl [3,3,33,97,97,97,225,97,225,32],rest:=kl [0,0,0,33],joinC:=fun | 7=>some ([0,5,6],[7]) | _=>none} Tryz.func89
theorem Fi:Lk (wy a0 a1) WX [a0,a1]:=lk {keep:=kl [3,3]} Tryz.func90
theorem ko:Lk (kn a0) XU [a0]:=lk {keep:=kl [1,1,0,1]} Tryz.func92
theorem zX:Lk (qx a0) XV [a0]:=lk {keep:=kl [1,1]} Tryz.func93
theorem G0:Lk (yQ a0 a1) Ve [a0,a1]:=lk {keep:=kl [3,3]} Tryz.func96
theorem CM:Lk (sy a0 a1) Xm [a0,a1]:=lk {keep:=kl [3,3,0,3]} Tryz.func97
theorem BJ:Lk (rm a0 a1 a2) Xn [a0,a1,a2]:=lk {keep:=kl [7,7,0,7]} Tryz.func98
theorem ym:Lk (pO a0 a1) XW [a0,a1]:=lk {keep:=kl [3,19,16,19]} Tryz.func99
theorem Al:Lk (qU a0 a1 a2 a3) XX [a0,a1,a2,a3]:=lk {keep:=kl [15,195,1219,1024,195,0,131],plan:=dl [(4,.c [0,1,2,3,4,5,6,7,8]),(6,.c [0,1,2,3,4,5,6,71])]} Tryz.func100
theorem vI:Lk (oS a0 a1 a2) XY [a0,a1,a2]:=lk {keep:=kl [7,35,163,163,128],plan:=dl [(3,.c [0,1,2,3,4,5,6,71])],joinC:=fun | 3=>some ([7],[]) | _=>none} Tryz.func101
theorem AP:Lk (rk a0 a1 a2) XZ [a0,a1,a2]:=lk {keep:=kl [7,7,0,7,0,7,0,5]} Tryz.func102
theorem zO:Lk (qk a0 a1) Xq [a0,a1]:=lk {keep:=kl [3,3,0,3]} Tryz.func103
theorem yl:Lk (pG a0 a1 a2) Xr [a0,a1,a2]:=lk {keep:=kl [7,7,0,7]} Tryz.func104
theorem ph:Lk (i6 a0) WZ [a0]:=lk {keep:=kl [1,1,0,1]} Tryz.func105
theorem DP:Lk (uv a0 a1 a2) X0 [a0,a1,a2]:=lk {keep:=kl [7,21,132,128]} Tryz.func106
theorem Gv:Lk (zj a0 a1 a2) X2 [a0,a1,a2]:=lk {keep:=kl [7,49,160,128],plan:=dl [(2,.c [0,1,2,3,4,5,6,7,8,9,10,75,12,13,78])]} Tryz.func107
theorem vF:Lk (mL a0 a1 a2 a3) gt [a0,a1,a2,a3]:=lk {keep:=kl [15,1]} Tryz.func108
theorem tJ:Lk (lN a0) Wh [a0]:=lk {keep:=kl [1,13,1,17,1,17,1,1033,1,1033,1,1,1033,9],plan:=dl [(5,.c [0,1,2,3,4,5,6,7,8,9,10,11,12,13,14,15,16,17,19,20,21,22,23,24,25,26,27,28,29,30,31,139586995282,96,33,34,99])],joinC:=fun | 8=>some ([],[]) | 10=>some ([],[]) | 13=>some ([],[]) | _=>none} Tryz.func109
theorem tU:Lk (lE a0) X3 [a0]:=lk {keep:=kl [1,1,65,65,1,1,1],joinC:=fun | 3=>some ([0],[]) | 4=>some ([0],[]) | 6=>some ([],[]) | _=>none} Tryz.func110
theorem w8:Lk (oD a0) VG [a0]:=lk {keep:=kl [1,1,0,1]} Tryz.func111
theorem vx:Lk (mQ a0 a1) Vj [a0,a1]:=lk {live:=kl [0,0,2064],keep:=kl [3,19,3091,3091,3091,19,1,1,1],rest:=kl [0,0,1027],joinC:=fun | 8=>some ([],[]) | _=>none} Tryz.func112
theorem vk:Lk (nf a0 a1) W6 [a0,a1]:=lk {live:=kl [0,0,16384],keep:=kl [3,1,28673,28673,28705,28673,1],rest:=kl [0,0,12289],plan:=dl [(4,.c [0,1,2,3,4,5,6,7,2632,73])],joinC:=fun | 1=>some ([0],[]) | _=>none} Tryz.func113
theorem vB:Lk (mJ a0) Wi [a0]:=lk {keep:=kl [1,1,0,1]} Tryz.func114
theorem sV:Lk (ld a0) Wj [a0]:=lk {keep:=kl [1,1,0,1]} Tryz.func115
theorem so:Lk (kZ a0) VH [a0]:=lk {keep:=kl [1,1]} Tryz.func116
theorem Aq:Lk (ry a0 a1 a2) Wa [a0,a1,a2]:=lk {live:=kl [0,1024],keep:=kl [7,1795,1795,1923,1795],rest:=kl [0,771]} Tryz.func117
theorem sM:Lk (lr a0) Wk [a0]:=lk {keep:=kl [1,1,0,1,1,1]} Tryz.func118
theorem xC:Lk (oq a0) W5 [a0]:=lk {keep:=kl [1,1,1,1]} Tryz.func119
theorem xi:Lk (n7 a0) VX [a0]:=lk {keep:=kl [1,1,1,1,5,1,5,1],plan:=dl [(0,.c [0,1,2,3,4,5,6,7,8,9]),(2,.c [0,1,2,3,4,5,6,7,8,9,10,11]),(3,.c [0,1,2,3,4,5,6,7,72,9])],joinC:=fun | 1=>some ([0],[]) | _=>none} Tryz.func120
theorem Ar:Lk (rD a0) VI [a0]:=lk {keep:=kl [1,1]} Tryz.func121
theorem mu:Lk (g9 a0) Vi [a0]:=lk {keep:=kl [1,1,0,1]} Tryz.func126
theorem tE:Lk (lT a0) Vy [a0]:=lk {keep:=kl [1,1,0,1]} Tryz.func127
theorem ri:Lk (jX a0) Vl [a0]:=lk {keep:=kl [1,1]} Tryz.func128
theorem tc:Lk (ly a0) X4 [a0]:=lk {keep:=kl [1,1]} Tryz.func129
theorem sB:Lk (lx a0) X5 [a0]:=lk {keep:=kl [1,1,0,1]} Tryz.func130
theorem Gp:Lk (zr a0) Vx [a0]:=lk {keep:=kl [1,2]} Tryz.func131
theorem ES:Lk (wR a0 a1) WV [a0,a1]:=lk {keep:=kl [3,3]} Tryz.func132
theorem Fz:Lk (xw a0 a1) V8 [a0,a1]:=lk {keep:=kl [3,3]} Tryz.func134
theorem Ay:Lk (rF a0 a1) Wl [a0,a1]:=lk {keep:=kl [3,3]} Tryz.func135
theorem zF:Lk (qC a0 a1 a2) Wm [a0,a1,a2]:=lk {keep:=kl [7,35,0,32]} Tryz.func136
theorem CL:Lk (s9 a0 a1) V9 [a0,a1]:=lk {keep:=kl [3,3]} Tryz.func137
theorem DG:Lk (uk a0 a1) Wn [a0,a1]:=lk {keep:=kl [3,9,9],plan:=dl [(2,.c [0,1,2,3,4,5,6,199,200,9,74,11])]} Tryz.func138
theorem IP:Lk (Bu a0 a1 a2) Xa [a0,a1,a2]:=lk {keep:=kl [7,14,14,270],plan:=dl [(3,.c [0,1,2,4,6,7,8,131,133,9,74,11])]} Tryz.func139
theorem xo:Lk (ou a0) X6 [a0]:=lk {keep:=kl [1,1,1,1,1,1,17,16,4503599627370513,4503599627370512],rest:=kl [0,0,0,1],plan:=dl [(2,.c [0,1,2,3,5,6,7,8,16452,73,10,11]),(3,.c [0,1,2,3,4,5,6,7,8,9]),(5,.c [0,1,2,3,4,5,6,7,8,9,10,11,12,13,78,15])]} Tryz.func140
theorem vg:Lk (mH a0 a1) Wo [a0,a1]:=lk {keep:=kl [3,1],plan:=dl [(0,.c [0,1,2,3,4,5,6,7,8,9,10,11,12,13,14,15,16,17,18,20,21,22,23,24,25,26,27,28,18253612115,93,30,31,96])]} Tryz.func141
theorem CB:Lk (sH a0) VJ [a0]:=lk {keep:=kl [1,1]} Tryz.func142
theorem sT:Lk (kY a0 a1) Wp [a0,a1]:=lk {keep:=kl [3,3],plan:=dl [(0,.c [0,1,2,3,4,5,6,7,8,9,10,11,12,13,33870,79,16,17,82])]} Tryz.func143
theorem BK:Lk (rN a0) Wq [a0]:=lk {keep:=kl [1,1]} Tryz.func144
theorem Js:Lk (A9 a0 a1 a2 a3 a4 a5 a6) X7 [a0,a1,a2,a3,a4,a5,a6]:=lk {keep:=kl [127,127,32768,32768]} Tryz.func145
theorem iD:Lk (fW a0 a1 a2) Wr [a0,a1,a2]:=lk {keep:=kl [7]} Tryz.func146
theorem tn:Lk (lw a0) X8 [a0]:=lk {keep:=kl [1,33,1,33,1,1,33,1,1,33,1],plan:=dl [(10,.c [0,1,2,3,4,6,7,8,9,32837,74,75])],joinC:=fun | 2=>some ([],[]) | 4=>some ([],[]) | 7=>some ([],[]) | 10=>some ([],[]) | _=>none} Tryz.func147
theorem uL:Lk (m3 a0) Ws [a0]:=lk {keep:=kl [1,1,0,1]} Tryz.func148
theorem pX:Lk (jj a0) VK [a0]:=lk {keep:=kl [1,1]} Tryz.func149
theorem uK:Lk (mG a0) Xc [a0]:=lk {keep:=kl [1,1]} Tryz.func150
theorem z9:Lk (qW a0) X9 [a0]:=lk {live:=kl [0,0,0,131072],keep:=kl [1,1,9,229384,229384,229432,229384,8],rest:=kl [0,0,0,98312]} Tryz.func151
theorem AC:Lk (rH a0) Ya [a0]:=lk {keep:=kl [1,1]} Tryz.func152
theorem AN:Lk (rn a0) Xt [a0]:=lk {keep:=kl [1,1]} Tryz.func153
theorem zP:Lk (qA a0 a1) VY [a0,a1]:=lk {live:=kl [0,0,0,16480],keep:=kl [3,3,99,28771,28771,29027,29027,29027,28771,97,32],rest:=kl [0,0,0,12291],joinC:=fun | 6=>some ([0,1,12,13,14],[5,6]) | _=>none} Tryz.func154
theorem l8:Lk (gV a0) Vz [a0]:=lk {keep:=kl [1,1,0,1]} Tryz.func155
theorem tg:Lk (li a0) Yb [a0]:=lk {keep:=kl [1,1]} Tryz.func156
theorem pL:Lk (kw a0) Vm [a0]:=lk {keep:=kl [1,1]} Tryz.func157
theorem BB:Lk (rI a0) Yc [a0]:=lk {live:=kl [0,0,0,131080],keep:=kl [1,1,9,229385,229385,229417,229385,8],rest:=kl [0,0,0,98305]} Tryz.func158
theorem JI:Lk (C5 a0 a1 a2) VA [a0,a1,a2]:=lk {keep:=kl [7,7,2,5,4,1]} Tryz.func159
theorem B2:Lk (ti a0) WU [a0]:=lk {keep:=kl [1,1],plan:=dl [(1,.p (.take 0 1 (.both (.run 1 [] 3 (.run 2 [] 7 (.take 3 15 (.run 4 [] 31 (.take 5 63 .done))))) (.run 2 [] 5 (.run 1 [] 7 (.take 3 15 (.run 4 [] 31 (.take 5 63 .done))))))))]} Tryz.func160
theorem NC:Lk (Hz a0) Yd [a0]:=lk {keep:=kl [1,2,2,2]} Tryz.func161
theorem Mk:Lk (EI a0 a1) Ye [a0,a1]:=lk {keep:=kl [3,3],plan:=dl [(1,.p (.take 0 1 (.take 1 3 (.take 2 7 (.take 4 23 (.both (.run 3 [] 31 (.run 5 [] 63 (.take 6 127 (.run 7 [] 255 (.take 8 511 .done))))) (.run 5 [] 55 (.run 3 [] 63 (.take 6 127 (.run 7 [] 255 (.take 8 511 .done)))))))))))]} Tryz.func162
theorem Kb:Lk (Dv a0) Yf [a0]:=lk {keep:=kl [1,1]} Tryz.func163
theorem K2:Lk (Dk a0) Wt [a0]:=lk {live:=fun|5=>[4,21]|_=>[],keep:=kl [1,2,0,2,18,3670034,3670034,3670130,3670258,160,3670130,3670034,18,16,2],rest:=kl [0,0,0,0,0,1572866],plan:=dl [(14,.c [0,1,130,67,4,5,6,7])]} Tryz.func164
theorem GR:Lk (zn a0) Yg [a0]:=lk {live:=fun|7=>[27]|12=>[37]|18=>[57]|_=>[],keep:=kl [1,2,18,0,2,34,98,201326690,201326690,201326818,201326690,98,240518168674,240518168674,240518169442,240518168930,240518168674,98,252201579132747872,252201579132747872,252201579132750944,252201579132748896,252201579132747872,64],rest:=fun|7=>[1,5,6,26]|12=>[1,5,6,35,36]|18=>[5,6,55,56]|_=>[],joinC:=fun | 15=>some ([1,5,6,35,36,37],[]) | 21=>some ([5,6,55,56,57],[]) | _=>none} Tryz.func165
theorem JC:Lk Dl Yh []:=lk {} Tryz.func166
theorem yA:Lk (pC a0) Xi [a0]:=lk {keep:=nl [[0],[0],[0],[0],[0],[0],[0],[0],[0],[0],[0,3],[0,3],[0,3,65],[0],[0],[0,3,65],[],[0]],rest:=kl [0,1],plan:=dl [(4,.c [0,1,2,3,4,5,6,7,8,9,10,11]),(9,.c [0,1,2,3,4,5,6,7,8,9,10,11,76,13])],joinC:=fun | 13=>some ([0],[]) | _=>none,joinB:=fun | 1=>some ([0],[]) | _=>none} Tryz.func167
theorem yB:Lk (pF a0) Xb [a0]:=lk {keep:=kl [1,1]} Tryz.func168
theorem Jc:Lk (Bz a0 a1) Yi [a0,a1]:=lk {keep:=kl [3,3,227,35,163,128,35,419,128,291],joinC:=fun | 3=>some ([0,1,5],[7]) | _=>none} Tryz.func169
theorem Jv:Lk (C2 a0 a1 a2 a3 a4) Yj [a0,a1,a2,a3,a4]:=lk {keep:=kl [31,31]} Tryz.func170
theorem Kg:Lk (Di a0 a1 a2) Wu [a0,a1,a2]:=lk {keep:=kl [7,7,0,7],plan:=dl [(3,.c [0,1,4,66,3,69,6,7])]} Tryz.func171
theorem Il:Lk (AW a0 a1 a2) Yk [a0,a1,a2]:=lk {keep:=kl [7,7]} Tryz.func172
noncomputable def m7:pM:={ live:=fun | _=>[],keep:=fun | 0=>[0] | 1=>[0,2] | 2=>[0,2,3] | 3=>[3,13] | 4=>[3,5] | 5=>[3,5,6] | 6=>[3,6] | 7=>[3,6] | 8=>[3] | _=>[],rest:=fun | _=>[],plan:=fun | _=>.c [],joinC:=fun | _=>none,joinB:=fun | _=>none }
theorem FI:Lk (vR a0 a1) VL [a0,a1]:=lk {keep:=kl [3,19]} Tryz.func174
theorem CO:Lk (sJ a0 a1 a2) Xj [a0,a1,a2]:=lk {live:=kl [0,0,0,8320],keep:=kl [7,7,135,14470,14470,14982,15494,15494,14470,128,128],rest:=kl [0,0,0,6150],joinC:=fun | 7=>some ([1,2,11,12,13],[7]) | _=>none} Tryz.func175
theorem wQ:Lk (ot a0) Wv [a0]:=lk {keep:=kl [1,1,1],plan:=dl [(1,.c [0,1,2,3,4,5,6,7,8,9,10])],joinC:=fun | 2=>some ([],[]) | _=>none} Tryz.func176
theorem re:Lk (jT a0) Ym [a0]:=lk {keep:=kl [1,1,1,5,5,2097157,1,1,2097157,1],plan:=dl [(2,.c [0,1,2,3,4,5,6,7,584,73,10]),(6,.c [0,1,2,3,4,5,6,7,9,10,11,12,262728,589,78])],joinC:=fun | 6=>some ([],[]) | 9=>some ([],[]) | _=>none} Tryz.func177
theorem vq:Lk (mU a0) Ww [a0]:=lk {keep:=kl [1,1,0,1]} Tryz.func178
theorem yw:Lk (pt a0) Yn [a0]:=lk {keep:=kl [1,1]} Tryz.func179
theorem zz:Lk (qI a0) Yo [a0]:=lk {keep:=kl [1,1]} Tryz.func180
theorem Je:Lk (A5 a0) Yp [a0]:=lk {keep:=kl [1,1,32,256,8,32,8192,16]} Tryz.func181
theorem vh:Lk (mO a0) Yr [a0]:=lk {live:=kl [0,0,0,2056],keep:=kl [1,1,9,3592,3592,3624,3592,8],rest:=kl [0,0,0,1536]} Tryz.func183
theorem Ej:Lk (xE a0 a1) Xo [a0,a1]:=lk {live:=kl [0,0,512],keep:=kl [3,3,898,898,962,0,898],rest:=kl [0,0,386]} Tryz.func184
theorem td:Lk (lf a0) Nm [a0]:=lk {keep:=kl [1,1]} Tryz.func185
theorem JV:Lk (CZ a0) Ys [a0]:=lk {keep:=kl [1,1]} Tryz.func186
theorem Iy:Lk (AL a0) Wx [a0]:=lk {keep:=kl [1,1]} Tryz.func187
theorem Gu:Lk (yV a0 a1 a2) Yt [a0,a1,a2]:=lk {keep:=kl [7,42,0,42,0,42,0,34],plan:=dl [(3,.c [0,1,66,3,4,5,6,8,9,32839,74,11,12,13])]} Tryz.func188
theorem wv:Lk (oy a0 a1 a2) Wy [a0,a1,a2]:=lk {keep:=kl [7,7,7,7,3,1],joinC:=fun | 2=>some ([1,2],[0]) | 4=>some ([],[0]) | _=>none} Tryz.func189
theorem w4:Lk (oW a0) VM [a0]:=lk {keep:=kl [1,1,0,1]} Tryz.func190
noncomputable def yS:pM:={ live:=fun | 2=>[11] | _=>[],keep:=fun | 0=>[0,1] | 1=>[1,2] | 2=>[1,2,9,10,11] | 7=>[1,2,9,10,11] | 3=>[1,2,9,10,11] | 4=>[1,2,6,7,9,10,11] | 5=>[1,2,6,7,9,10,11] | 6=>[6] | _=>[],rest:=fun | 2=>[1,2,9,10] | _=>[],plan:=fun | 5=>.c [0,1,2,3,4,5,6,7,8,9,10,11,12,13,14,15,16,17,18,19,20,21,22,23,24,25,26,27,28,29,30,31,32,33,34,35,36,37,38,39,40] | _=>.c [],joinC:=fun | _=>none,joinB:=fun | 1=>some ([1,2,9,10,11],[]) | _=>none }
theorem GM (a0 a1:Value)(K:KV)(w:World):sa a0 a1 K w=Ke Tl yS Tryz.f191 [a0,a1] K w:=by kernel_rfl
theorem G3 {a0 a1:Value}{K:KV}{w0:bh}{L:List ay}(h:G w0 L (nY a0 a1 K)):G w0 L (CP Tryz.prog Yu [a0,a1] K):=fun w hw=>wM FX yS Tryz.func191 (by kernel_rfl) (Eq.mp (GM a0 a1 K w) (Eq.mp (congrFun (GA a0 a1 K) w) (h w hw)))
theorem DJ:Lk (ur a0) Wz [a0]:=lk {live:=kl [0,0,0,0,16400],keep:=kl [1,2,10,26,28696,28696,28792,28792,28696,8],rest:=kl [0,0,0,0,12296]} Tryz.func192
theorem I9:Lk (A0 a0) Vn [a0]:=lk {keep:=kl [1,1,8,0,8,0,8]} Tryz.func193
theorem vU:Lk (od a0 a1) VB [a0,a1]:=lk {keep:=kl [3]} Tryz.func194
theorem zA:Lk (qu a0 a1) Xh [a0,a1]:=lk {keep:=kl [3,9,233,9,4294967529,40,4294967529,96,4294967529,224,4294967529,224,4294967529,224,4294967529,224,4294967529,224,4294967401,9,4294967401,41,9,4294967401,33,0,4294967401,0,4294967401,9,4294967401,4294967401,4294967401,4294967401,105],plan:=dl [(1,.c [0,1,2,3,4,5,6,7,8,9,10,11,12,13,14,15,16,17,18,19,20,21,22,23,24,25]),(24,.c [0,1,2,3,4,5,6,71,8])],joinC:=fun | 5=>some ([],[]) | 7=>some ([],[]) | 9=>some ([],[]) | 11=>some ([],[]) | 13=>some ([],[]) | 15=>some ([],[]) | 17=>some ([],[]) | 19=>some ([],[]) | 21=>some ([],[]) | 22=>some ([],[]) | 31=>some ([0,3,5,6],[120]) | 32=>some ([0,3,5,6],[120]) | 33=>some ([0,3,5,6],[120]) | _=>none} Tryz.func195
theorem GF:Lk (zc a0 a1) WA [a0,a1]:=lk {keep:=kl [3,3,0,3,384,256,128,1536,0,1536]} Tryz.func196
theorem Cx:Lk (sD a0 a1) Or [a0,a1]:=lk {keep:=kl [3,3,0,3,195,64,3,259,256,3]} Tryz.func197
theorem I4:Lk (BT a0) Vo [a0]:=lk {keep:=kl [1,1]} Tryz.func198
theorem Cd:Lk (sY a0 a1) Vp [a0,a1]:=lk {live:=kl [0,0,512],keep:=kl [3,3,899,899,963,0,899,3],rest:=kl [0,0,387]} Tryz.func199
theorem fw:Lk (dy a0) VN [a0]:=lk {keep:=kl [1,2]} Tryz.func200
theorem I8:Lk (Bb a0) Vq [a0]:=lk {keep:=kl [1,1]} Tryz.func201
theorem wn:Lk (oY a0 a1) U9 [a0,a1]:=lk {live:=kl [0,0,0,8192],keep:=kl [3,3,35,14369,14369,14497,14625,289,256,14369],rest:=kl [0,0,0,6177]} Tryz.func202
theorem yy:Lk (pK a0) LT [a0]:=lk {keep:=kl [1,1]} Tryz.func203
theorem AZ:Lk (rE a0) Vt [a0]:=lk {keep:=kl [1,1]} Tryz.func206
theorem Ao:Lk (rB a0 a1) Yx [a0,a1]:=lk {keep:=kl [3,9,0,9,105,40,0,0,9,0,9],plan:=dl [(8,.c [0,1,2,3,4,5,6,7,8,9]),(10,.c [0,1,2,3,4,5,1094,71,8,9,74])]} Tryz.func207
theorem zQ:Lk (qf a0) Yy [a0]:=lk {keep:=kl [1,5,4,5],plan:=dl [(3,.c [0,1,2,3,4,5,6,7,8,9,74])]} Tryz.func208
theorem Cp:Lk (sX a0 a1 a2) Yz [a0,a1,a2]:=lk {keep:=kl [7,7,0,7,135,132,0,0,7,3]} Tryz.func209
theorem Ae:Lk (qZ a0) YA [a0]:=lk {keep:=kl [1,1,0,1]} Tryz.func210
theorem ye:Lk (pD a0) WB [a0]:=lk {keep:=kl [1,1]} Tryz.func211
theorem sx:Lk (lg a0) YB [a0]:=lk {keep:=kl [1,1]} Tryz.func212
theorem ui:Lk (t7 a0) WC [a0]:=lk {keep:=kl [1,1,0,1]} Tryz.func213
theorem xA:Lk (oh a0 a1) Zf [a0,a1]:=lk {keep:=kl [3,3]} Tryz.func214
theorem F2:Lk wo WD []:=lk {} Tryz.func218
theorem L9:Lk (D7 a0) YC [a0]:=lk {keep:=kl [1,2,58]} Tryz.func219
theorem CA:Lk (sS a0 a1) VO [a0,a1]:=lk {keep:=kl [3,9,0,9],plan:=dl [(3,.c [0,1,2,195,4,5,6,7])]} Tryz.func220
theorem Ev:Lk (w7 a0) Vf [a0]:=lk {keep:=kl [1,1]} Tryz.func221
theorem I1:Lk (BW a0) WE [a0]:=lk {keep:=kl [1,1]} Tryz.func222
theorem ED:Lk (vZ a0) V6 [a0]:=lk {keep:=kl [1,1]} Tryz.func223
theorem oM:Lk (jt a0 a1) V3 [a0,a1]:=lk {keep:=kl [3,3]} Tryz.func224
theorem uU:Lk (m4 a0 a1 a2 a3) V7 [a0,a1,a2,a3]:=lk {keep:=kl [15,45,131117,45,1541,1024,517,3076,3076,1024,131117,45,12297,8192,4105,131085,13,0,13,49156,49156,32768,5,0,5],plan:=dl [(11,.c [0,1,2,3,4,69,6,7,8,9,10]),(24,.c [0,1,2,3,4,5,6,7,72,9])],joinC:=fun | 8=>some ([10],[]) | 20=>some ([15],[]) | _=>none} Tryz.func226
theorem v8:Lk (ov a0 a1) Xg [a0,a1]:=lk {keep:=kl [3,9,73,73,9,65,65,1,1,65,1,1,1,65,1,1,1,1],plan:=dl [(4,.c [0,1,2,3,4,5,6,71,8]),(11,.c [0,1,2,3,4,5,6,7,8,9,10,11,12,13,78]),(15,.c [0,1,2,3,4,5,6,7,8,9,10,11,12,13,78])],joinC:=fun | 3=>some ([0,3,6],[7]) | 6=>some ([0,6],[18]) | _=>none} Tryz.func227
theorem Cl:Lk (sK a0) WF [a0]:=lk {keep:=kl [1,1]} Tryz.func228
theorem Ew:Lk (wh a0) YD [a0]:=lk {keep:=kl [1,1,1,1,1]} Tryz.func229
theorem Et:Lk (wS a0 a1) Vu [a0,a1]:=lk {keep:=kl [3,3]} Tryz.func230
noncomputable def pN:pM:={ live:=fun | _=>[],keep:=fun | 0=>[0,1] | 1=>[0,3,4,5] | 2=>[3,4,5,16] | 3=>[3,4,5,7] | 4=>[4,5,8,9] | 5=>[4,5,8] | 6=>[4,5] | _=>[],rest:=fun | _=>[],plan:=fun | 3=>.c [0,1,2,3,4,69,6,7,8,9,10] | _=>.c [],joinC:=fun | _=>none,joinB:=fun | _=>none }
theorem xk:Lk (n6 a0 a1) YF [a0,a1]:=lk {live:=fun|4=>[20]|_=>[],keep:=kl [3,3,35,35,1835041,1835041,1835169,1835297,289,256,1835041],rest:=kl [0,0,0,0,786465]} Tryz.func232
theorem yo:Lk (pP a0 a1 a2) WG [a0,a1,a2]:=lk {keep:=kl [7,7,0,7,135,133,0,7,0,7],plan:=dl [(7,.c [0,1,2,3,4,5,6,7,8,9])]} Tryz.func234
theorem BO:Lk (rl a0 a1) YG [a0,a1]:=lk {live:=kl [0,0,8192],keep:=kl [3,3,14338,14338,14466,128,14338],rest:=kl [0,0,6146]} Tryz.func237
theorem oV:Lk (iM a0 a1) WH [a0,a1]:=lk {keep:=kl [3,3,1,1,1,33,97,0,3,256]} Tryz.func238
theorem GV:Lk (yN a0) YH [a0]:=lk {keep:=kl [1,29,61,188,188,188,60,188,188,60,188,188,188,188,188,60,188,188,60,188,28,188,60,156,28,28],plan:=dl [(25,.c [0,1,2,451,324,69]),(9,.c [0,1,194,67]),(15,.c [0,1,2,451,324,69]),(18,.c [0,1,2,195,68,69])],joinC:=fun | 4=>some ([2,3,4,5,7],[8]) | 5=>some ([2,3,4,5,7],[8]) | 6=>some ([2,3,4],[]) | 8=>some ([2,3,4,5,7],[13]) | 9=>some ([2,3,4],[]) | 11=>some ([2,3,4,5,7],[18]) | 12=>some ([2,3,4,5,7],[18]) | 13=>some ([2,3,4,5,7],[18]) | 14=>some ([2,3,4,5,7],[18]) | 15=>some ([2,3,4],[]) | 17=>some ([2,3,4,5,7],[27]) | 18=>some ([2,3,4],[]) | 20=>some ([2,3,4],[]) | 22=>some ([2,3,4],[]) | 24=>some ([2,3,4],[]) | _=>none} Tryz.func241
theorem JH:Lk (C3 a0) YI [a0]:=lk {keep:=kl [1,1]} Tryz.func242
theorem BV:Lk (rA a0 a1) VP [a0,a1]:=lk {keep:=kl [3,6]} Tryz.func243
theorem rO:Lk (lU a0 a1) Zg [a0,a1]:=lk {keep:=kl [3,3,0,3]} Tryz.func244
theorem E3:Lk (wC a0 a1) V5 [a0,a1]:=lk {keep:=kl [3,3,0,3]} Tryz.func259
theorem AR:Lk (rG a0 a1 a2) YJ [a0,a1,a2]:=lk {keep:=kl [7,7,0,7]} Tryz.func260
theorem GO:Lk (zl a0 a1) YK [a0,a1]:=lk {keep:=kl [3,3,65,0,65,449,256,193,193,65]} Tryz.func261
theorem Ih:Lk (Bm a0 a1) YL [a0,a1]:=lk {keep:=kl [3,3,227,35,163,35,131,131,128],joinC:=fun | 3=>some ([0,1,5],[7]) | 5=>some ([0,1],[7]) | 7=>some ([7],[]) | _=>none} Tryz.func262
theorem vd:Lk (mX a0 a1 a2) VC [a0,a1,a2]:=lk {keep:=kl [7,7,135,128,7],plan:=dl [(4,.c [0,1,2,3,4,5,6,7,8,9,10,11,12,13,14,66639,16,1105,82,19,20,85])]} Tryz.func263
theorem uQ:Lk (my a0) Vc [a0]:=lk {keep:=kl [1,5,13,12],plan:=dl [(1,.c [0,1,2,3,4,5,6,7,8,9,10,11,139852,77]),(2,.c [0,1,2,3,4,5,6,7,8,9,10,11,12,13,78])]} Tryz.func264
theorem CQ:Lk (sk a0) VD [a0]:=lk {keep:=kl [1,1]} Tryz.func265
theorem vX:Lk (ol a0 a1) V4 [a0,a1]:=lk {keep:=kl [3,9,9],plan:=dl [(2,.c [0,1,2,3,4,5,70])]} Tryz.func266
theorem Cf:Lk (sG a0) WI [a0]:=lk {keep:=kl [1,1]} Tryz.func267
theorem uN:Lk (mY a0) Xf [a0]:=lk {keep:=kl [1,1,1,9,25,16,9,9,9,33,33,1,1],rest:=kl [0,1],plan:=dl [(8,.c [0,1,2,3,4,5,6,7,8])]} Tryz.func268
theorem yk:Lk (pH a0 a1) VQ [a0,a1]:=lk {keep:=kl [3,3,65,65]} Tryz.func269
theorem zE:Lk (qF a0) Va [a0]:=lk {keep:=kl [1,1],plan:=dl [(1,.c [0,1,2,3,4,5,6,7,8,9,10,11,12])]} Tryz.func270
theorem yv:Lk (px a0 a1 a2) WJ [a0,a1,a2]:=lk {keep:=kl [7,7,0,7,135,647,0,134]} Tryz.func271
theorem xl:Lk (om a0 a1) WK [a0,a1]:=lk {keep:=kl [3,9]} Tryz.func272
theorem D6:Lk (vV a0 a1) YM [a0,a1]:=lk {keep:=kl [3,3]} Tryz.func279
theorem rU:Lk (kH a0) Zh [a0]:=lk {keep:=kl [1,1,1,1]} Tryz.func284
theorem Iu:Lk (Bc a0 a1) Zi [a0,a1]:=lk {keep:=kl [3,3,0,3]} Tryz.func290
theorem Jp:Lk Ax Zj []:=lk {} Tryz.func291
theorem Gy:Lk (yL a0) YN [a0]:=lk {live:=kl [0,0,0,0,8],keep:=kl [1,1,0,1,9,9,9,8],rest:=kl [0,0,0,0,1]} Tryz.func327
theorem GK:Lk (zf a0 a1 a2) YO [a0,a1,a2]:=lk {keep:=kl [7,7,0,7,259,1795,771,1280,1024,256],joinC:=fun | 6=>some ([8],[10]) | _=>none} Tryz.func328
theorem GW:Lk (yK a0 a1) YP [a0,a1]:=lk {keep:=kl [3,3,195,128,67,0,67,259,768,512,256]} Tryz.func329
theorem Ce:Lk (sQ a0 a1) YQ [a0,a1]:=lk {keep:=kl [3]} Tryz.func330
theorem Ca:Lk (sr a0) YR [a0]:=lk {keep:=kl [1,1]} Tryz.func331
theorem BF:Lk (rP a0) Xd [a0]:=lk {keep:=kl [1,1]} Tryz.func332
theorem wz:Lk (o9 a0) YS [a0]:=lk {keep:=kl [1,1,9,25,16,9,40,40],plan:=dl [(6,.c [0,1,2,3,4,5,6,7,8,73,10,11,76]),(7,.c [0,1,2,3,4,5,6,7,584,73,10])]} Tryz.func333
theorem BL:Lk (rr a0 a1) Xe [a0,a1]:=lk {keep:=kl [3],plan:=dl [(0,.c [0,1,2,3,4,5,6,7,8,9,10,11,12,13,78,15,16,81])]} Tryz.func334
theorem oe:Lk (jF a0) Vv [a0]:=lk {keep:=kl [1,1,0,1],plan:=dl [(3,.c [0,1,2,3,4,5,6,7,8,9,10,11,12,13,78])]} Tryz.func335
theorem wi:Lk (nZ a0) YT [a0]:=lk {live:=kl [0,0,0,32776],keep:=kl [1,1,9,57352,57352,57384,57352,8],rest:=kl [0,0,0,24576]} Tryz.func336
theorem kx:Lk (gi a0 a1) YU [a0,a1]:=lk {live:=kl [0,0,256],keep:=kl [3,3,387,387,419,32,387],rest:=kl [0,0,131]} Tryz.func337
theorem uf:Lk (lZ a0 a1) WL [a0,a1]:=lk {keep:=kl [3,6]} Tryz.func338
theorem DL:Lk (ux a0) YV [a0]:=lk {keep:=kl [1,1]} Tryz.func344
theorem Ik:Lk (Ap a0) VR [a0]:=lk {keep:=kl [1,1,0,1]} Tryz.func365
theorem xg:Lk (o6 a0 a1) YW [a0,a1]:=lk {keep:=kl [3,18]} Tryz.func366
theorem vJ:Lk (o0 a0) YX [a0]:=lk {keep:=kl [1,1,0,1],plan:=dl [(3,.c [0,1,2,3,4,1093,1094,71,8,9,74])]} Tryz.func367
theorem yD:Lk (pI a0) YY [a0]:=lk {keep:=kl [1,1]} Tryz.func368
theorem CD:Lk (sU a0) YZ [a0]:=lk {keep:=kl [1,1]} Tryz.func398
theorem Am:Lk (qM a0) Y0 [a0]:=lk {keep:=kl [1,5,4,5,5,5]} Tryz.func399
theorem Ac:Lk (qJ a0 a1) Y1 [a0,a1]:=lk {keep:=kl [3,9,9,9,9,9,1],plan:=dl [(2,.c [0,1,2,3,68,5]),(5,.c [0,1,2,3,4,5,6,7,8,9,10,11,12,13,14])],joinC:=fun | 3=>some ([],[]) | 4=>some ([],[]) | 6=>some ([],[]) | _=>none} Tryz.func400
theorem uj:Lk (l9 a0) VS [a0]:=lk {keep:=kl [1,1]} Tryz.func401
theorem pV:Lk (jl a0 a1) VT [a0,a1]:=lk {keep:=kl [3,9,9,1],joinC:=fun | 2=>some ([0],[]) | _=>none} Tryz.func402
theorem r8:Lk (ky a0 a1 a2 a3) go [a0,a1,a2,a3]:=lk {keep:=kl [15]} Tryz.func403
theorem yq:Lk (pA a0 a1) Y2 [a0,a1]:=lk {keep:=kl [3,9,9,9,9,9,9,1],plan:=dl [(4,.c [0,1,2,3,68,5]),(5,.c [0,1,2,3,4,69]),(6,.c [0,1,2,3,4,5,6,7])],joinC:=fun | 4=>some ([],[]) | 5=>some ([],[]) | 7=>some ([],[]) | _=>none} Tryz.func404
theorem rf:Lk (jU a0 a1) VU [a0,a1]:=lk {keep:=kl [3,9,0,1,1],plan:=dl [(1,.c [0,1,2,3,4,5,6])]} Tryz.func405
theorem z4:Lk (qE a0) Y3 [a0]:=lk {keep:=kl [1,1]} Tryz.func406
theorem w3:Lk (oX a0) Y4 [a0]:=lk {keep:=kl [1,5,4,5,4,5],plan:=dl [(5,.c [0,1,2,3,4,5,6,7,8,9,10,11,76,13])]} Tryz.func407
theorem xz:Lk (oA a0 a1) Y5 [a0,a1]:=lk {keep:=kl [3,1,9,9,9,9,9,9,9,1,1,1],plan:=dl [(2,.c [0,1,2,3,68,5]),(10,.c [0,1,2,3,4,5,6,7,8,9]),(4,.c [0,1,2,3,4,5,582,7,8,73]),(6,.c [0,1,2,3,4,69,6]),(7,.c [0,1,2,3,4,5,70]),(8,.c [0,1,2,3,4,5,6,7,8,9,10,11,12,13,14,15])],joinC:=fun | 4=>some ([0],[]) | 7=>some ([],[]) | 11=>some ([],[]) | _=>none} Tryz.func408
theorem zN:Lk (qD a0) Y6 [a0]:=lk {keep:=kl [1,1]} Tryz.func409
theorem xj:Lk (ox a0) Y7 [a0]:=lk {keep:=kl [1,5,4,5,16389,5,16389,5,21,16389,4,16389,5,16389,5,16389,5,16389,5,5],plan:=dl [(5,.c [0,1,2,3,4,5,6,7,8,9,10,11,76,13]),(7,.c [0,1,2,3,4,5,6,7,8,9,17482,75]),(8,.c [0,1,2,3,4,5,6,7,8,9,10,11,12,13,14,15,16,81,18]),(12,.c [0,1,2,3,4,5,6,7,8,9,74,11]),(14,.c [0,1,2,3,4,5,6,7,8,9,10,11,76,13]),(16,.c [0,1,2,3,4,5,6,7,8,9,10,11,12,13,14,15,16,17,18,19,20,21,22,87,24]),(18,.c [0,1,2,3,4,5,6,7,8,9,10,11,12,13,14,15,16,81,18]),(19,.c [0,1,2,3,4,5,6,7,8,9,10,11,12,13,14,15,16,17,18,19,20,85,22])]} Tryz.func410
theorem wx:Lk (n8 a0 a1) Y8 [a0,a1]:=lk {keep:=kl [3,9,9,4105,4105,9,4105,4105,9,4105,9,4097,1,1,4097,1,1,4097,1,1],plan:=dl [(1,.c [0,1,2,3,68])],joinC:=fun | 4=>some ([0,3,12],[13]) | 5=>some ([],[]) | 7=>some ([0,3,12],[19]) | 8=>some ([],[]) | 10=>some ([],[]) | 12=>some ([],[]) | 15=>some ([],[]) | 18=>some ([],[]) | _=>none} Tryz.func411
theorem vC:Lk (mV a0) WM [a0]:=lk {keep:=kl [1,1]} Tryz.func412
theorem xu:Lk (o7 a0 a1) Y9 [a0,a1]:=lk {keep:=kl [3,1,9,9,9,9,9,1,1],plan:=dl [(7,.c [0,1,2,3,4,5,6,7,8,1097,74,11,12,77])],joinC:=fun | 3=>some ([],[]) | 5=>some ([],[]) | 7=>some ([],[]) | _=>none} Tryz.func413
theorem vD:Lk (mP a0 a1) Za [a0,a1]:=lk {keep:=kl [3,1,9,1,9,9,9,1,1,1],plan:=dl [(8,.c [0,1,2,3,4,5,6,7,8,9])],joinC:=fun | 3=>some ([],[]) | 5=>some ([],[]) | 7=>some ([],[]) | 9=>some ([],[]) | _=>none} Tryz.func414
theorem tS:Lk (mb a0 a1) Zb [a0,a1]:=lk {keep:=kl [3,1,1,9,9,9,1],plan:=dl [(5,.c [0,1,2,3,4,5,6,7,8,9,10,11,12,13,14])],joinC:=fun | 4=>some ([],[]) | 6=>some ([],[]) | _=>none} Tryz.func415
theorem vi:Lk (mF a0) WN [a0]:=lk {keep:=kl [1,1,1],plan:=dl [(0,.c [0,1,2,3,4,5,6,7,8,9])],joinC:=fun | 1=>some ([],[]) | _=>none} Tryz.func416
theorem wL:Lk (oZ a0) WO [a0]:=lk {keep:=kl [1,1],plan:=dl [(0,.c [0,1,2,3,4,5,6,7,8,9])],joinC:=fun | 1=>some ([],[]) | _=>none} Tryz.func417
theorem uO:Lk (mT a0) WP [a0]:=lk {keep:=kl [1,1],plan:=dl [(0,.c [0,1,2,3,4,5,6,7,8,9]),(1,.c [0,1,2,3,4,5,6,7,8,9,10,11,12,13,14,79])],joinC:=fun | 1=>some ([],[]) | _=>none} Tryz.func418
theorem xf:Lk (oz a0 a1) WQ [a0,a1]:=lk {keep:=kl [3,9,9],plan:=dl [(1,.c [0,1,2,3,68,5])],joinC:=fun | 2=>some ([],[]) | _=>none} Tryz.func419
theorem vW:Lk (ow a0 a1 a2 a3) Vw [a0,a1,a2,a3]:=lk {keep:=kl [15,1,1]} Tryz.func420
theorem uJ:Lk (mA a0) WR [a0]:=lk {keep:=kl [1,1,1,1,13,5,1,1],rest:=kl [0,1],plan:=dl [(1,.c [0,1,2,3,4,5,6,7,8,9]),(3,.c [0,1,2,3,4,5,6,7,8,9,10,11,12,13,14,79,16,17,18,19,20]),(5,.c [0,1,2,3,4,5,6,7,8,9,10,11,12,13,14,15,16,17,18,19])]} Tryz.func421
theorem oH:Lk (iI a0 a1) Zc [a0,a1]:=lk {live:=kl [0,0,0,384],keep:=kl [3,3,67,451,451,963,835,707,195],rest:=kl [0,0,0,67],joinC:=fun | 6=>some ([0,1,6],[7,8]) | _=>none} Tryz.func422
theorem zK:Lk (q7 a0) Zd [a0]:=lk {keep:=kl [1,1]} Tryz.func423
end
end Go.Proofs.YtoealglbimbbmaaGreatDoor.S
