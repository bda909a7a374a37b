import Derived.Test.YtoealglbimbbmaaGreatDoorSPoint
import Derived.Test.YtoealglbimbbmaaGreatDoorSEq
import Derived.Test.YtoealglbimbbmaaGreatDoorProg
import Derived.KernelRfl
namespace Go.Proofs.YtoealglbimbbmaaGreatDoor.S
open Go Go.Proofs
set_option linter.unusedVariables false
set_option maxRecDepth 100000
noncomputable def T5:zw:={ P:=Tryz.prog,eqs:=fun | 59=>some [.i .u64,.b,.i .i64] | _=>none }
theorem Im:T5.OK:=by
 refine⟨fun t ks h=>?_,by kernel_rfl⟩
 unfold T5 at h
 simp only at h
 split at h
 ·cases h;exact Rw 9 (by kernel_rfl) (by kernel_rfl) (by decide) (by kernel_rfl)
 ·cases h
abbrev Lk (S:KV→World→Prop)(f:FuncId)(args:List Value):Prop:=∀⦃K:KV⦄ ⦃w0:bo⦄ ⦃L:List bd⦄,G w0 L (S K)→G w0 L (CP Tryz.prog f args K)
theorem lk (N:qx){f:FuncId}{fn:Func}{args:List Value}{S:KV→World→Prop}(hf:Tryz.prog.funcs[f]? = some fn)(hn:(fn.name == "runtime.NumGoroutine")=false:=by kernel_rfl) (hE:∀K w,S K w=Ma T5 N fn args K w:=by intro K w;kernel_rfl):Lk S f args:=fun _ _ _ h w hw=>B4 Im N hf hn (Eq.mp (hE _ w) (h w hw))
noncomputable def nl (l:List (List Nat)):Nat→List Nat:=List.rec (motive:=fun _=>Nat→List Nat) (fun _=>[]) (fun a _ ih n=>Nat.rec (motive:=fun _=>List Nat) a (fun m _=>ih m) n) l
noncomputable def kl (l:List Nat):Nat→List Nat:=fun n=>PM 64 0 (List.rec (motive:=fun _=>Nat→Nat) (fun _=>0) (fun a _ ih n=>Nat.rec (motive:=fun _=>Nat) a (fun m _=>ih m) n) l n)
noncomputable def dl (l:List (Nat×EL)):Nat→EL:=List.rec (motive:=fun _=>Nat→EL) (fun _=>.c []) (fun p _ ih n=>cond (Nat.beq p.1 n) p.2 (ih n)) l
section
variable {a0 a1 a2 a3 a4 a5 a6 a7 a8 a9:Value}{K:KV}{w0:bo}{L:List bd}
theorem FB:Lk (xK a0 a1 a2) Xt [a0,a1,a2]:=lk {live:=fun|10=>[10]|13=>[11]|_=>[],keep:=kl [7,14,0,14,134,134,260,0,260,772,1796,1796,1796,3844,3844,3844,7940,12036,12036,61188],rest:=fun|10=>[2,8,9]|13=>[2,8,9,10]|_=>[],plan:=dl [(5,.c [0,1,130,67,4]),(17,.c [0,1,2,3,4,5,7,8,9,10,11,131142,76])]} Tryz.func5
theorem JO:Lk Ct Xu []:=lk {live:=kl [0,0,0,0,0,4],keep:=kl [0,0,2,0,2,6,6,6,2,26],rest:=kl [0,0,0,0,0,2]} Tryz.func9
theorem FC:Lk (yl a0 a1) Wq [a0,a1]:=lk {live:=fun|6=>[32]|12=>[51]|_=>[],keep:=kl [3,6,6,6,6,38,7516192806,7516192806,7516192998,7516192998,7516192806,38,3377699720527910,3377699720527910,3377699720528166,3377699720528678,3377699720528166,3377699720528678,3377699720527910,32],rest:=fun|6=>[1,2,5,30,31]|12=>[1,2,5,50]|_=>[],plan:=dl [(4,.c [0,1,2,131,4,69,6]),(17,.c [0,1,2,3,4,5,6,7,1096,1097,74,11,12,77])],joinC:=fun | 9=>some ([1,2,5,30,31,32],[]) | 16=>some ([1,2,5,8,50,51],[9]) | _=>none} Tryz.func10
theorem yW:Lk (qa a0) Xv [a0]:=lk {keep:=kl [1,6,14,12],plan:=dl [(1,.p (.take 0 1 (.take 1 3 (.take 3 11 (.take 4 27 (.take 6 91 (.take 7 219 (.both (.run 2 [7,4] 223 (.both (.run 5 [7] 255 (.both (.run 8 [] 511 (.take 9 1023 (.run 10 [] 2047 (.run 11 [] 4095 .done)))) (.run 10 [7] 1279 (.run 8 [] 1535 (.take 9 2047 (.run 11 [] 4095 .done)))))) (.run 10 [7,4] 1247 (.run 5 [7] 1279 (.run 8 [] 1535 (.take 9 2047 (.run 11 [] 4095 .done))))))) (.run 10 [7,4,1] 1243 (.run 2 [7,4] 1247 (.run 5 [7] 1279 (.run 8 [] 1535 (.take 9 2047 (.run 11 [] 4095 .done)))))))))))))),(2,.c [0,1,3,4,6,7,9,10,11,74818,73797,65608,12,13,78])]} Tryz.func11
theorem sG:Lk (kU a0) Ws [a0]:=lk {keep:=kl [1,1]} Tryz.func13
theorem Li:Lk (Eo a0 a1 a2) Xw [a0,a1,a2]:=lk {keep:=kl [6,20]} Tryz.func14
theorem td:Lk (lu a0 a1 a2) VJ [a0,a1,a2]:=lk {live:=fun|13=>[80]|_=>[],keep:=nl [[0,1,2],[0,1,2],[],[0,1,2],[0,1,2],[0,1,2,7],[0,1,2,7],[7],[],[0,1,2,7],[0,1],[],[0,1],[0,1,78,79,80],[0,1,78,79,80],[0,1,8,9,78,79,80],[0,1,9,78,79,80],[0,1,78,79,80]],rest:=fun|13=>[0,1,78,79]|_=>[],plan:=dl [(9,.c [0,1,2,3,4,5,6,7,8,10,11,12,13,14,1048649,79]),(16,.c [0,1,2,3,4,5,6,7,8,9,10,11,76])],joinC:=fun | 16=>some ([0,1,78,79,80],[]) | _=>none} Tryz.func15
theorem NC:Lk (GK a0 a1) Xx [a0,a1]:=lk {keep:=kl [3,9],plan:=dl [(1,.c [0,1,2,195,4,5,70,7])]} Tryz.func16
theorem Hu:Lk (Ak a0) Xy [a0]:=lk {live:=kl [0,0,0,16],keep:=kl [1,1,9,25,25,25,57,121,121,89,8],rest:=kl [0,0,0,9],plan:=dl [(9,.c [0,1,2,3,4,5,6,7,8,8265,74,11,76])],joinC:=fun | 8=>some ([0,3,4,6],[]) | _=>none} Tryz.func20
theorem qf:Lk (jv a0) Wt [a0]:=lk {live:=kl [0,0,0,2056],keep:=kl [1,1,9,3592,3592,3624,3592,8],rest:=kl [0,0,0,1536]} Tryz.func21
theorem H6:Lk (zU a0 a1 a2) Xz [a0,a1,a2]:=lk {live:=kl [0,0,0,0,768],keep:=kl [7,7,135,390,902,902,902,902,256],rest:=kl [0,0,0,0,134],joinC:=fun | 7=>some ([1,2,7,9],[8]) | _=>none} Tryz.func22
theorem tB:Lk (lN a0) XA [a0]:=lk {keep:=kl [1,5],plan:=dl [(1,.c [0,1,2,3,4,5,6,7,8264,9])]} Tryz.func23
theorem II:Lk (Af a0 a1) XB [a0,a1]:=lk {live:=fun|5=>[7]|8=>[8]|_=>[],keep:=kl [3,9,104,0,40,168,168,168,424,424,424,936],rest:=kl [0,0,0,0,0,40,0,0,168],plan:=dl [(11,.c [0,1,2,3,4,5,6,7,8,9,4170,11,12,13])]} Tryz.func24
theorem K6:Lk (DU a0) XC [a0]:=lk {keep:=kl [1,5]} Tryz.func25
theorem qI:Lk (jO a0 a1) XD [a0,a1]:=lk {keep:=kl [3,3,32,32]} Tryz.func27
theorem Fz:Lk (yr a0 a1 a2) dg [a0,a1,a2]:=lk {keep:=kl [7,7,7,7,3],joinC:=fun | 3=>some ([1],[0]) | _=>none} Tryz.func30
theorem qH:Lk (jR a0) XE [a0]:=lk {keep:=kl [1,1]} Tryz.func31
theorem sA:Lk (kR a0) XF [a0]:=lk {live:=kl [0,0,2048],keep:=kl [1,1,3584,3584,3600,3616,0,3584],rest:=kl [0,0,1536]} Tryz.func36
theorem Eu:Lk (wc a0) V3 [a0]:=lk {keep:=kl [1,6],plan:=dl [(1,.c [0,1,3,4,5,6,7,8,9,10,11,12,13,14,279618,15,80])]} Tryz.func37
theorem Nu:Lk (Gp a0) XG [a0]:=lk {keep:=kl [1,2,2],plan:=dl [(2,.c [0,1,2,4,5,6,7,9,10,12,13,600195,589960,524427,142,15,80,17])]} Tryz.func38
theorem Fx:Lk (xM a0) XH [a0]:=lk {keep:=kl [1,1,8,8]} Tryz.func39
theorem Ib:Lk (Am a0 a1) Wu [a0,a1]:=lk {keep:=kl [3,25,49,49,48],joinC:=fun | 3=>some ([4,5],[]) | _=>none} Tryz.func40
theorem IV:Lk (zZ a0 a1 a2) XI [a0,a1,a2]:=lk {live:=fun|4=>[29]|_=>[],keep:=kl [7,21,21,132,939524224,939524224,939524736,939524224,128,128],rest:=kl [0,0,0,0,402653312],plan:=dl [(2,.c [0,1,2,3,4,5,6,7,8776,9,74,11]),(6,.c [0,1,2,3,4,5,6,1095,8,1097,74,11,12,77])]} Tryz.func41
theorem CW:Lk (tR a0) XJ [a0]:=lk {keep:=kl [1,1]} Tryz.func42
theorem uI:Lk (nH a0) XK [a0]:=lk {keep:=kl [1,5,133,5,133,5,133,5,4]} Tryz.func43
theorem uE:Lk (mm a0) XL [a0]:=lk {keep:=kl [1,1,1,1],joinC:=fun | 3=>some ([],[]) | _=>none} Tryz.func44
theorem vJ:Lk (oJ a0 a1 a2 a3) XM [a0,a1,a2,a3]:=lk {keep:=kl [15,45,32813,45,557,525,2573,13,13,13,32805,37,32801,33,33,33],plan:=dl [(4,.c [0,1,2,3,4,69])],joinC:=fun | 3=>some ([],[]) | 7=>some ([0,2,3],[]) | 9=>some ([],[]) | 11=>some ([],[]) | 13=>some ([],[]) | 14=>some ([0,5],[]) | _=>none} Tryz.func45
theorem vY:Lk (nS a0 a1 a2) XN [a0,a1,a2]:=lk {live:=kl [0,0,524288],keep:=kl [7,7,917511,917511,917639,1,1,1,1,917511],rest:=kl [0,0,393223],joinC:=fun | 6=>some ([],[]) | 8=>some ([],[]) | _=>none} Tryz.func46
theorem B6:Lk (uH a0 a1 a2 a3) V4 [a0,a1,a2,a3]:=lk {keep:=kl [15,271,257,263]} Tryz.func50
theorem Lh:Lk (Dr a0) XO [a0]:=lk {keep:=kl [1,5]} Tryz.func51
theorem rH:Lk (kp a0) XP [a0]:=lk {live:=kl [0,0,0,8200],keep:=kl [1,1,9,14345,14345,14377,14345,9,9,137,9,8],rest:=kl [0,0,0,6145],joinC:=fun | 8=>some ([],[3]) | 10=>some ([],[3]) | _=>none} Tryz.func52
theorem FN:Lk (yo a0) XQ [a0]:=lk {live:=kl [0,0,0,24,0,0,32],keep:=kl [1,1,9,25,25,25,57,57,57,8],rest:=kl [0,0,0,1,0,0,25],plan:=dl [(6,.c [0,1,2,3,4,5,6,7,8,9,10,11,12,13,14,79,16]),(8,.p (.take 0 1 (.take 1 3 (.take 2 7 (.take 4 23 (.take 7 151 (.take 8 407 (.take 9 919 (.both (.run 3 [] 927 (.run 5 [] 959 (.run 6 [] 1023 (.run 10 [] 2047 (.take 11 4095 .done))))) (.run 5 [] 951 (.run 3 [] 959 (.run 6 [] 1023 (.run 10 [] 2047 (.take 11 4095 .done))))))))))))))],joinB:=fun | 1=>some ([0,4],[3]) | _=>none} Tryz.func53
theorem Fv:Lk (xT a0 a1) Wv [a0,a1]:=lk {live:=fun|4=>[7]|8=>[8]|_=>[],keep:=kl [3,3,34,98,226,226,226,98,354,354,354,354,64],rest:=kl [0,0,0,0,98,0,0,0,98],plan:=dl [(6,.c [0,1,2,3,4,5,6,7,8,9,10,11,12,13,14,15,16,17,82]),(11,.c [0,1,2,3,4,5,6,7,8,9,10,11,76])],joinC:=fun | 11=>some ([1,5,6,8],[]) | _=>none} Tryz.func54
theorem HT:Lk (AN a0) XR [a0]:=lk {live:=kl [0,0,0,0,0,0,192,0,0,0,768,0,0,3072,0,0,0,0,5120],keep:=kl [1,1,49,0,17,81,209,209,209,465,977,977,2001,4049,4049,4049,3025,2001,6097,6097,6097,5073,2001,0,977,977,465,64],rest:=kl [0,0,0,0,0,0,17,0,0,0,209,0,0,977,0,0,0,0,977],joinC:=fun | 16=>some ([0,4,6,7,8,9,11],[10]) | 21=>some ([0,4,6,7,8,9,12],[10]) | _=>none} Tryz.func55
theorem JN:Lk (Cy a0) VK [a0]:=lk {keep:=kl [1,1,0,1]} Tryz.func56
theorem uS:Lk (oF a0 a1) ZB [a0,a1]:=lk {keep:=kl [3,3,0,3]} Tryz.func57
theorem sq:Lk (ld a0) XS [a0]:=lk {keep:=kl [1,1]} Tryz.func58
theorem t9:Lk (mJ a0) XT [a0]:=lk {keep:=kl [1,1]} Tryz.func63
theorem LJ:Lk (Ff a0) Ww [a0]:=lk {keep:=kl [1,6]} Tryz.func65
theorem Lg:Lk (DP a0) Xg [a0]:=lk {keep:=kl [1,1]} Tryz.func66
theorem Hv:Lk (zA a0 a1) XU [a0,a1]:=lk {keep:=kl [3,3],plan:=dl [(1,.p (.take 0 1 (.take 3 9 (.run 1 [] 11 (.both (.run 2 [] 15 (.run 4 [] 31 (.take 5 63 (.run 6 [] 127 (.take 7 255 .done))))) (.run 4 [] 27 (.run 2 [] 31 (.take 5 63 (.run 6 [] 127 (.take 7 255 .done))))))))))]} Tryz.func67
theorem JJ:Lk (CG a0) XV [a0]:=lk {keep:=kl [1,1]} Tryz.func68
theorem Kj:Lk (Ca a0) Xl [a0]:=lk {keep:=kl [1,1]} Tryz.func69
theorem HA:Lk (AU a0 a1) XW [a0,a1]:=lk {keep:=kl [3,25,57,48,185,57,185,57,185,57,185,57,185,57,185,49,185,57,185,57,185,57,48],plan:=dl [(5,.c [0,1,2,3,4,5,70,7,8,9,10,75,12,77]),(7,.c [0,1,2,3,4,5,6,7,72,9,74]),(9,.c [0,1,2,3,4,5,70,7,8,9,10,75,12,77]),(11,.c [0,1,2,3,4,5,6,7,8,9,74,11,12,13,14,79,16,81]),(13,.c [0,1,2,3,4,5,6,7,72,9,74]),(17,.c [0,1,2,3,4,5,6,7,72,9,10,11,12,77,14,79]),(19,.c [0,1,2,3,4,5,70,7,8,9,10,75,12,77]),(21,.c [0,1,2,3,4,5,6,7,72,9,74])],joinC:=fun | 5=>some ([4,5],[]) | 7=>some ([4,5],[]) | 9=>some ([4,5],[]) | 11=>some ([4,5],[]) | 13=>some ([4,5],[]) | 15=>some ([4,5],[]) | 17=>some ([4,5],[]) | 19=>some ([4,5],[]) | 21=>some ([4,5],[]) | _=>none} Tryz.func70
theorem Jo:Lk Ck Xo []:=lk {} Tryz.func71
theorem m9:Lk (m5 a0) XX [a0]:=lk {keep:=kl [1,1,0,1]} Tryz.func72
theorem qL:Lk (jS a0) Or [a0]:=lk {keep:=kl [1,1,1]} Tryz.func73
theorem CZ:Lk (tO a0) Xh [a0]:=lk {keep:=kl [1,1]} Tryz.func74
theorem sV:Lk (lD a0) XY [a0]:=lk {keep:=kl [1,5,133,5,133,4,133,5,133,5,133,4,5],plan:=dl [(7,.c [0,1,2,3,4,5,6,7,8,9,74,11])]} Tryz.func75
theorem ul:Lk (mv a0) GT [a0]:=lk {live:=fun|7=>[2,62]|_=>[],keep:=kl [1,1,1,1,1,1,5,8070450532247928837,8070450532247928837,8070450532247928853,8070450532247928837,5,1],rest:=fun|7=>[0,60,61]|_=>[],plan:=dl [(2,.c [0,1,2,3,4,5,6,7,8,9,10]),(11,.c [0,1,2,3,4,5,6,7,8,9,74,11,12,77]),(1,.c [0,1,2,3,4,5,6,7,8,9,10,11,12,13,14,15,16,17,18,83,20,21,86])],joinC:=fun | 5=>some ([0],[]) | _=>none} Tryz.func76
theorem sD:Lk (kZ a0) VL [a0]:=lk {keep:=kl [1,1],plan:=dl [(1,.c [0,1,2,3,4,5,6,7,8,9])]} Tryz.func77
theorem tH:Lk (lJ a0 a1) XZ [a0,a1]:=lk {keep:=kl [3,9,9,9,1,9,9,1,4194313,1,4194313,9,1,4194313,1,4194313,1],plan:=dl [(11,.c [0,1,2,3,4,5,6,7,8,5193,10,11,4172,13,14,79]),(6,.c [0,1,2,3,4,69])],joinC:=fun | 9=>some ([],[]) | 11=>some ([],[]) | 14=>some ([],[]) | 16=>some ([],[]) | _=>none} Tryz.func78
theorem uv:Lk (mN a0) gt [a0]:=lk {keep:=kl [1,1,0,1]} Tryz.func79
theorem t8:Lk (mE a0 a1 a2) Wx [a0,a1,a2]:=lk {keep:=kl [7,71,67,65,65,1,67,67,67,65,3,65,1,1,1,65,65],plan:=dl [(1,.c [0,1,2,3,4,5,6,1095,1096,73,10,11,76]),(8,.c [0,65,2,3,4,6,7,8,9,10,11,131141,12,13]),(3,.c [0,1,2,3,4,5,7,9,11,1094,1096,1098,1100,13,1102,79,16,17,82]),(4,.c [0,1,2,3,4,6,581,583,72])],joinC:=fun | 7=>some ([],[]) | 12=>some ([],[]) | 16=>some ([],[]) | _=>none} Tryz.func80
theorem um:Lk (mM a0 a1 a2) X0 [a0,a1,a2]:=lk {keep:=kl [7,21,17,5],plan:=dl [(1,.c [0,1,2,3,4,5,6,7,8,9,10,11,12,13,14,15,16,17,18,19,20,21,22,23]),(2,.c [0,1,2,3,4,5,582,7,8,73])]} Tryz.func81
theorem tI:Lk (lW a0 a1) X2 [a0,a1]:=lk {keep:=kl [3,1]} Tryz.func82
theorem tx:Lk (ly a0) X3 [a0]:=lk {keep:=kl [1,1]} Tryz.func83
theorem p7:Lk (jz a0) X4 [a0]:=lk {keep:=kl [1,1]} Tryz.func84
theorem CQ:Lk (tQ a0) X5 [a0]:=lk {keep:=kl [1,6,6],plan:=dl [(1,.c [0,1,3,4,6,7,9282,9,8261,72,74,11,76,13,78])]} Tryz.func86
theorem wA:Lk (nY a0 a1) Wy [a0,a1]:=lk {keep:=kl [3,19,51,115,371,115,371],plan:=dl [(6,.c [0,1,2,3,4,5,6,7,8,9,10,11,12,13,14,15,16,17,18,19,21,22,24,25,26,27,28,29,31,33,35,8598594132,8598594135,8598594142,8598594144,8598594146,8598594148,37,102])],joinC:=fun | 5=>some ([0,1,4,5,6],[8]) | _=>none} Tryz.func87
theorem Hr:Lk (Aw a0 a1) X6 [a0,a1]:=lk {keep:=kl [3,12,12,12,4,12],plan:=dl [(3,.c [0,2,321,67,4])]} Tryz.func88
theorem HB:Lk (AR a0 a1) X7 [a0,a1]:=lk {live:=kl [0,0,0,64],keep:=kl [3,3,33,97,97,97,225,97,225,32],rest:=kl [0,0,0,33],joinC:=fun | 7=>some ([0,5,6],[7]) | _=>none} Tryz.func89
theorem EC:Lk (vD a0 a1) X8 [a0,a1]:=lk {keep:=kl [3,3]} Tryz.func90
theorem F8:Lk (xO a0) X9 [a0]:=lk {live:=fun|8=>[5,6]|_=>[],keep:=kl [1,1,0,1,17,0,17,49,113,113,241,497,0,497,497,497,369,0,369,369,32],rest:=fun|8=>[0,4]|_=>[],joinC:=fun | 15=>some ([0,4,5,6,8],[]) | _=>none} Tryz.func91
theorem j7:Lk (j9 a0) Ya [a0]:=lk {keep:=kl [1,1,0,1]} Tryz.func92
theorem yK:Lk (qq a0) Yb [a0]:=lk {keep:=kl [1,1]} Tryz.func93
theorem F1:Lk (yh a0 a1) VG [a0,a1]:=lk {keep:=kl [3,3]} Tryz.func96
theorem Bd:Lk (sc a0 a1) Xi [a0,a1]:=lk {keep:=kl [3,3,0,3]} Tryz.func97
theorem AV:Lk (qU a0 a1 a2) Xj [a0,a1,a2]:=lk {keep:=kl [7,7,0,7]} Tryz.func98
theorem xy:Lk (oZ a0 a1) Yc [a0,a1]:=lk {keep:=kl [3,19,16,19]} Tryz.func99
theorem yR:Lk (pL a0 a1 a2 a3) Yd [a0,a1,a2,a3]:=lk {keep:=kl [15,195,1219,1024,195,0,131],plan:=dl [(4,.c [0,1,2,3,4,5,6,7,8]),(6,.c [0,1,2,3,4,5,6,71])]} Tryz.func100
theorem uJ:Lk (om a0 a1 a2) Ye [a0,a1,a2]:=lk {keep:=kl [7,35,163,163,128],plan:=dl [(3,.c [0,1,2,3,4,5,6,71])],joinC:=fun | 3=>some ([7],[]) | _=>none} Tryz.func101
theorem Ax:Lk (rp a0 a1 a2) Yf [a0,a1,a2]:=lk {keep:=kl [7,7,0,7,0,7,0,5]} Tryz.func102
theorem zm:Lk (qD a0 a1) Xm [a0,a1]:=lk {keep:=kl [3,3,0,3]} Tryz.func103
theorem xm:Lk (pm a0 a1 a2) Xn [a0,a1,a2]:=lk {keep:=kl [7,7,0,7]} Tryz.func104
theorem oP:Lk (iV a0) Xe [a0]:=lk {keep:=kl [1,1,0,1]} Tryz.func105
theorem CN:Lk (tY a0 a1 a2) Yg [a0,a1,a2]:=lk {keep:=kl [7,21,132,128]} Tryz.func106
theorem FP:Lk (ya a0 a1 a2) Yh [a0,a1,a2]:=lk {keep:=kl [7,49,160,128],plan:=dl [(2,.c [0,1,2,3,4,5,6,7,8,9,10,75,12,13,78])]} Tryz.func107
theorem uu:Lk (mx a0 a1 a2 a3) go [a0,a1,a2,a3]:=lk {keep:=kl [15,1]} Tryz.func108
theorem sL:Lk (lV a0) Wz [a0]:=lk {keep:=kl [1,13,1,17,1,17,1,1033,1,1033,1,1,1033,9],plan:=dl [(5,.c [0,1,2,3,4,5,6,7,8,9,10,11,12,13,14,15,16,17,19,20,21,22,23,24,25,26,27,28,29,30,31,139586995282,96,33,34,99])],joinC:=fun | 8=>some ([],[]) | 10=>some ([],[]) | 13=>some ([],[]) | _=>none} Tryz.func109
theorem sK:Lk (lK a0) Yi [a0]:=lk {keep:=kl [1,1,65,65,1,1,1],joinC:=fun | 3=>some ([0],[]) | 4=>some ([0],[]) | 6=>some ([],[]) | _=>none} Tryz.func110
theorem vk:Lk (nK a0) V5 [a0]:=lk {keep:=kl [1,1,0,1]} Tryz.func111
theorem ub:Lk (mR a0 a1) VM [a0,a1]:=lk {live:=kl [0,0,2064],keep:=kl [3,19,3091,3091,3091,19,1,1,1],rest:=kl [0,0,1027],joinC:=fun | 8=>some ([],[]) | _=>none} Tryz.func112
theorem uw:Lk (mD a0 a1) Yj [a0,a1]:=lk {live:=kl [0,0,16384],keep:=kl [3,1,28673,28673,28705,28673,1],rest:=kl [0,0,12289],plan:=dl [(4,.c [0,1,2,3,4,5,6,7,2632,73])],joinC:=fun | 1=>some ([0],[]) | _=>none} Tryz.func113
theorem uk:Lk (ml a0) WA [a0]:=lk {keep:=kl [1,1,0,1]} Tryz.func114
theorem sn:Lk (kV a0) WB [a0]:=lk {keep:=kl [1,1,0,1]} Tryz.func115
theorem se:Lk (kS a0) V6 [a0]:=lk {keep:=kl [1,1]} Tryz.func116
theorem Ae:Lk (q9 a0 a1 a2) Wn [a0,a1,a2]:=lk {live:=kl [0,1024],keep:=kl [7,1795,1795,1923,1795],rest:=kl [0,771]} Tryz.func117
theorem sk:Lk (kX a0) WC [a0]:=lk {keep:=kl [1,1,0,1,1,1]} Tryz.func118
theorem uO:Lk (oc a0) Yk [a0]:=lk {keep:=kl [1,1,1,1]} Tryz.func119
theorem wq:Lk (nM a0) WD [a0]:=lk {keep:=kl [1,1,1,1,5,1,5,1],plan:=dl [(0,.c [0,1,2,3,4,5,6,7,8,9]),(2,.c [0,1,2,3,4,5,6,7,8,9,10,11]),(3,.c [0,1,2,3,4,5,6,7,72,9])],joinC:=fun | 1=>some ([0],[]) | _=>none} Tryz.func120
theorem A6:Lk (qV a0) V7 [a0]:=lk {keep:=kl [1,1]} Tryz.func121
theorem lA:Lk (gQ a0) VI [a0]:=lk {keep:=kl [1,1,0,1]} Tryz.func126
theorem tE:Lk (lx a0) VX [a0]:=lk {keep:=kl [1,1,0,1]} Tryz.func127
theorem qO:Lk (jP a0) VN [a0]:=lk {keep:=kl [1,1]} Tryz.func128
theorem rR:Lk (kM a0) Yl [a0]:=lk {keep:=kl [1,1]} Tryz.func129
theorem rW:Lk (lh a0) Ym [a0]:=lk {keep:=kl [1,1,0,1]} Tryz.func130
theorem F5:Lk (xS a0) V8 [a0]:=lk {keep:=kl [1,2]} Tryz.func131
theorem EM:Lk (v9 a0 a1) Yn [a0,a1]:=lk {keep:=kl [3,3]} Tryz.func132
theorem HG:Lk (Av a0) Yo [a0]:=lk {keep:=kl [1,1,0,1]} Tryz.func133
theorem Eh:Lk (vS a0 a1) Wl [a0,a1]:=lk {keep:=kl [3,3]} Tryz.func134
theorem AZ:Lk (rq a0 a1) WE [a0,a1]:=lk {keep:=kl [3,3]} Tryz.func135
theorem yu:Lk (qc a0 a1 a2) WF [a0,a1,a2]:=lk {keep:=kl [7,35,0,32]} Tryz.func136
theorem BA:Lk (sB a0 a1) Wm [a0,a1]:=lk {keep:=kl [3,3]} Tryz.func137
theorem C3:Lk (t4 a0 a1) WG [a0,a1]:=lk {keep:=kl [3,9,9],plan:=dl [(2,.c [0,1,2,3,4,5,6,199,200,9,74,11])]} Tryz.func138
theorem Hn:Lk (zE a0 a1 a2) Xq [a0,a1,a2]:=lk {keep:=kl [7,14,14,270],plan:=dl [(3,.c [0,1,2,4,6,7,8,131,133,9,74,11])]} Tryz.func139
theorem uL:Lk (nI a0) Yp [a0]:=lk {keep:=kl [1,1,1,1,1,1,17,16,4503599627370513,4503599627370512],rest:=kl [0,0,0,1],plan:=dl [(2,.c [0,1,2,3,5,6,7,8,16452,73,10,11]),(3,.c [0,1,2,3,4,5,6,7,8,9]),(5,.c [0,1,2,3,4,5,6,7,8,9,10,11,12,13,78,15])]} Tryz.func140
theorem uy:Lk (mw a0 a1) WH [a0,a1]:=lk {keep:=kl [3,1],plan:=dl [(0,.c [0,1,2,3,4,5,6,7,8,9,10,11,12,13,14,15,16,17,18,20,21,22,23,24,25,26,27,28,18253612115,93,30,31,96])]} Tryz.func141
theorem BP:Lk (r9 a0) V9 [a0]:=lk {keep:=kl [1,1]} Tryz.func142
theorem rN:Lk (kY a0 a1) WI [a0,a1]:=lk {keep:=kl [3,3],plan:=dl [(0,.c [0,1,2,3,4,5,6,7,8,9,10,11,12,13,33870,79,16,17,82])]} Tryz.func143
theorem zH:Lk (qS a0) WJ [a0]:=lk {keep:=kl [1,1]} Tryz.func144
theorem Hj:Lk (AM a0 a1 a2 a3 a4 a5 a6) Yq [a0,a1,a2,a3,a4,a5,a6]:=lk {keep:=kl [127,127,32768,32768]} Tryz.func145
theorem ie:Lk (fL a0 a1 a2) WK [a0,a1,a2]:=lk {keep:=kl [7]} Tryz.func146
theorem sr:Lk (li a0) Yr [a0]:=lk {keep:=kl [1,33,1,33,1,1,33,1,1,33,1],plan:=dl [(10,.c [0,1,2,3,4,6,7,8,9,32837,74,75])],joinC:=fun | 2=>some ([],[]) | 4=>some ([],[]) | 7=>some ([],[]) | 10=>some ([],[]) | _=>none} Tryz.func147
theorem ug:Lk (mL a0) WL [a0]:=lk {keep:=kl [1,1,0,1]} Tryz.func148
theorem pu:Lk (jg a0) Wa [a0]:=lk {keep:=kl [1,1]} Tryz.func149
theorem uq:Lk (my a0) Xs [a0]:=lk {keep:=kl [1,1]} Tryz.func150
theorem yS:Lk (pW a0) Ys [a0]:=lk {live:=kl [0,0,0,131072],keep:=kl [1,1,9,229384,229384,229432,229384,8],rest:=kl [0,0,0,98312]} Tryz.func151
theorem An:Lk (qT a0) Yt [a0]:=lk {keep:=kl [1,1]} Tryz.func152
theorem AH:Lk (rk a0) Xp [a0]:=lk {keep:=kl [1,1]} Tryz.func153
theorem zj:Lk (qB a0 a1) Wo [a0,a1]:=lk {live:=kl [0,0,0,16480],keep:=kl [3,3,99,28771,28771,29027,29027,29027,28771,97,32],rest:=kl [0,0,0,12291],joinC:=fun | 6=>some ([0,1,12,13,14],[5,6]) | _=>none} Tryz.func154
theorem mc:Lk (gR a0) VY [a0]:=lk {keep:=kl [1,1,0,1]} Tryz.func155
theorem sF:Lk (lj a0) Yu [a0]:=lk {keep:=kl [1,1]} Tryz.func156
theorem o8:Lk (jU a0) VO [a0]:=lk {keep:=kl [1,1]} Tryz.func157
theorem z4:Lk (rn a0) Yv [a0]:=lk {live:=kl [0,0,0,131080],keep:=kl [1,1,9,229385,229385,229417,229385,8],rest:=kl [0,0,0,98305]} Tryz.func158
theorem JV:Lk (Ce a0 a1 a2) VZ [a0,a1,a2]:=lk {keep:=kl [7,7,2,5,4,1]} Tryz.func159
theorem Bl:Lk (r8 a0) Yw [a0]:=lk {keep:=kl [1,1],plan:=dl [(1,.p (.take 0 1 (.both (.run 1 [] 3 (.run 2 [] 7 (.take 3 15 (.run 4 [] 31 (.take 5 63 .done))))) (.run 2 [] 5 (.run 1 [] 7 (.take 3 15 (.run 4 [] 31 (.take 5 63 .done))))))))]} Tryz.func160
theorem OB:Lk (GB a0) Yx [a0]:=lk {keep:=kl [1,2,2,2]} Tryz.func161
theorem K7:Lk (EX a0 a1) Yy [a0,a1]:=lk {keep:=kl [3,3],plan:=dl [(1,.p (.take 0 1 (.take 1 3 (.take 2 7 (.take 4 23 (.both (.run 3 [] 31 (.run 5 [] 63 (.take 6 127 (.run 7 [] 255 (.take 8 511 .done))))) (.run 5 [] 55 (.run 3 [] 63 (.take 6 127 (.run 7 [] 255 (.take 8 511 .done)))))))))))]} Tryz.func162
theorem I4:Lk (Cv a0) Yz [a0]:=lk {keep:=kl [1,1]} Tryz.func163
theorem Ja:Lk (BZ a0) WM [a0]:=lk {live:=fun|5=>[4,21]|_=>[],keep:=kl [1,2,0,2,18,3670034,3670034,3670130,3670258,160,3670130,3670034,18,16,2],rest:=kl [0,0,0,0,0,1572866],plan:=dl [(14,.c [0,1,130,67,4,5,6,7])]} Tryz.func164
theorem FH:Lk (yd a0) YA [a0]:=lk {live:=fun|7=>[27]|12=>[37]|18=>[57]|_=>[],keep:=kl [1,2,18,0,2,34,98,201326690,201326690,201326818,201326690,98,240518168674,240518168674,240518169442,240518168930,240518168674,98,252201579132747872,252201579132747872,252201579132750944,252201579132748896,252201579132747872,64],rest:=fun|7=>[1,5,6,26]|12=>[1,5,6,35,36]|18=>[5,6,55,56]|_=>[],joinC:=fun | 15=>some ([1,5,6,35,36,37],[]) | 21=>some ([5,6,55,56,57],[]) | _=>none} Tryz.func165
theorem JH:Lk Cu YB []:=lk {} Tryz.func166
theorem xj:Lk (oY a0) YC [a0]:=lk {keep:=nl [[0],[0],[0],[0],[0],[0],[0],[0],[0],[0],[0,3],[0,3],[0,3,65],[0],[0],[0,3,65],[],[0]],rest:=kl [0,1],plan:=dl [(4,.c [0,1,2,3,4,5,6,7,8,9,10,11]),(9,.c [0,1,2,3,4,5,6,7,8,9,10,11,76,13])],joinC:=fun | 13=>some ([0],[]) | _=>none,joinB:=fun | 1=>some ([0],[]) | _=>none} Tryz.func167
theorem xD:Lk (oW a0) Xr [a0]:=lk {keep:=kl [1,1]} Tryz.func168
theorem Ih:Lk (zV a0 a1) YD [a0,a1]:=lk {keep:=kl [3,3,227,35,163,128,35,419,128,291],joinC:=fun | 3=>some ([0,1,5],[7]) | _=>none} Tryz.func169
theorem Ka:Lk (CA a0 a1 a2 a3 a4) YE [a0,a1,a2,a3,a4]:=lk {keep:=kl [31,31]} Tryz.func170
theorem Jn:Lk (Ch a0 a1 a2) WN [a0,a1,a2]:=lk {keep:=kl [7,7,0,7],plan:=dl [(3,.c [0,1,4,66,3,69,6,7])]} Tryz.func171
theorem IK:Lk (AL a0 a1 a2) YF [a0,a1,a2]:=lk {keep:=kl [7,7]} Tryz.func172
noncomputable def mz:qx:={ live:=fun | _=>[],keep:=fun | 0=>[0] | 1=>[0,2] | 2=>[0,2,3] | 3=>[3,13] | 4=>[3,5] | 5=>[3,5,6] | 6=>[3,6] | 7=>[3,6] | 8=>[3] | _=>[],rest:=fun | _=>[],plan:=fun | _=>.c [],joinC:=fun | _=>none,joinB:=fun | _=>none }
theorem Ee:Lk (wo a0 a1) Wb [a0,a1]:=lk {keep:=kl [3,19]} Tryz.func174
theorem Bn:Lk (rU a0 a1 a2) Xf [a0,a1,a2]:=lk {live:=kl [0,0,0,8320],keep:=kl [7,7,135,14470,14470,14982,15494,15494,14470,128,128],rest:=kl [0,0,0,6150],joinC:=fun | 7=>some ([1,2,11,12,13],[7]) | _=>none} Tryz.func175
theorem vZ:Lk (oq a0) WO [a0]:=lk {keep:=kl [1,1,1],plan:=dl [(1,.c [0,1,2,3,4,5,6,7,8,9,10])],joinC:=fun | 2=>some ([],[]) | _=>none} Tryz.func176
theorem qG:Lk (jQ a0) YH [a0]:=lk {keep:=kl [1,1,1,5,5,2097157,1,1,2097157,1],plan:=dl [(2,.c [0,1,2,3,4,5,6,7,584,73,10]),(6,.c [0,1,2,3,4,5,6,7,9,10,11,12,262728,589,78])],joinC:=fun | 6=>some ([],[]) | 9=>some ([],[]) | _=>none} Tryz.func177
theorem ua:Lk (mH a0) WP [a0]:=lk {keep:=kl [1,1,0,1]} Tryz.func178
theorem xw:Lk (pg a0) YI [a0]:=lk {keep:=kl [1,1]} Tryz.func179
theorem yX:Lk (pX a0) YJ [a0]:=lk {keep:=kl [1,1]} Tryz.func180
theorem Hf:Lk (Ap a0) YK [a0]:=lk {keep:=kl [1,1,32,256,8,32,8192,16]} Tryz.func181
theorem uf:Lk (mI a0) YM [a0]:=lk {live:=kl [0,0,0,2056],keep:=kl [1,1,9,3592,3592,3624,3592,8],rest:=kl [0,0,0,1536]} Tryz.func183
theorem DF:Lk (vX a0 a1) Xk [a0,a1]:=lk {live:=kl [0,0,512],keep:=kl [3,3,898,898,962,0,898],rest:=kl [0,0,386]} Tryz.func184
theorem sj:Lk (kW a0) LE [a0]:=lk {keep:=kl [1,1]} Tryz.func185
theorem JS:Lk (CD a0) YN [a0]:=lk {keep:=kl [1,1]} Tryz.func186
theorem IG:Lk (AW a0) WQ [a0]:=lk {keep:=kl [1,1]} Tryz.func187
theorem FI:Lk (yq a0 a1 a2) YO [a0,a1,a2]:=lk {keep:=kl [7,42,0,42,0,42,0,34],plan:=dl [(3,.c [0,1,66,3,4,5,6,8,9,32839,74,11,12,13])]} Tryz.func188
theorem vu:Lk (oh a0 a1 a2) WR [a0,a1,a2]:=lk {keep:=kl [7,7,7,7,3,1],joinC:=fun | 2=>some ([1,2],[0]) | 4=>some ([],[0]) | _=>none} Tryz.func189
theorem vI:Lk (nQ a0) WS [a0]:=lk {keep:=kl [1,1,0,1]} Tryz.func190
noncomputable def xL:qx:={ live:=fun | 2=>[11] | _=>[],keep:=fun | 0=>[0,1] | 1=>[1,2] | 2=>[1,2,9,10,11] | 7=>[1,2,9,10,11] | 3=>[1,2,9,10,11] | 4=>[1,2,6,7,9,10,11] | 5=>[1,2,6,7,9,10,11] | 6=>[6] | _=>[],rest:=fun | 2=>[1,2,9,10] | _=>[],plan:=fun | 5=>.c [0,1,2,3,4,5,6,7,8,9,10,11,12,13,14,15,16,17,18,19,20,21,22,23,24,25,26,27,28,29,30,31,32,33,34,35,36,37,38,39,40] | _=>.c [],joinC:=fun | _=>none,joinB:=fun | 1=>some ([1,2,9,10,11],[]) | _=>none }
theorem FK (a0 a1:Value)(K:KV)(w:World):ry a0 a1 K w=Ma T5 xL Tryz.f191 [a0,a1] K w:=by kernel_rfl
theorem Fp {a0 a1:Value}{K:KV}{w0:bo}{L:List bd}(h:G w0 L (nv a0 a1 K)):G w0 L (CP Tryz.prog YP [a0,a1] K):=fun w hw=>B4 Im xL Tryz.func191 (by kernel_rfl) (Eq.mp (FK a0 a1 K w) (Eq.mp (congrFun (FF a0 a1 K) w) (h w hw)))
theorem CU:Lk (tM a0) WT [a0]:=lk {live:=kl [0,0,0,0,16400],keep:=kl [1,2,10,26,28696,28696,28792,28792,28696,8],rest:=kl [0,0,0,0,12296]} Tryz.func192
theorem HN:Lk (At a0) VP [a0]:=lk {keep:=kl [1,1,8,0,8,0,8]} Tryz.func193
theorem uK:Lk (oA a0 a1) V1 [a0,a1]:=lk {keep:=kl [3]} Tryz.func194
theorem yT:Lk (pV a0 a1) YQ [a0,a1]:=lk {keep:=kl [3,9,233,9,4294967529,40,4294967529,96,4294967529,224,4294967529,224,4294967529,224,4294967529,224,4294967529,224,4294967401,9,4294967401,41,9,4294967401,33,0,4294967401,0,4294967401,9,4294967401,4294967401,4294967401,4294967401,105],plan:=dl [(1,.c [0,1,2,3,4,5,6,7,8,9,10,11,12,13,14,15,16,17,18,19,20,21,22,23,24,25]),(24,.c [0,1,2,3,4,5,6,71,8])],joinC:=fun | 5=>some ([],[]) | 7=>some ([],[]) | 9=>some ([],[]) | 11=>some ([],[]) | 13=>some ([],[]) | 15=>some ([],[]) | 17=>some ([],[]) | 19=>some ([],[]) | 21=>some ([],[]) | 22=>some ([],[]) | 31=>some ([0,3,5,6],[120]) | 32=>some ([0,3,5,6],[120]) | 33=>some ([0,3,5,6],[120]) | _=>none} Tryz.func195
theorem Fq:Lk (xN a0 a1) WU [a0,a1]:=lk {keep:=kl [3,3,0,3,384,256,128,1536,0,1536]} Tryz.func196
theorem Bm:Lk (rO a0 a1) LT [a0,a1]:=lk {keep:=kl [3,3,0,3,195,64,3,259,256,3]} Tryz.func197
theorem HQ:Lk (zF a0) VQ [a0]:=lk {keep:=kl [1,1]} Tryz.func198
theorem BV:Lk (rP a0 a1) VR [a0,a1]:=lk {live:=kl [0,0,512],keep:=kl [3,3,899,899,963,0,899,3],rest:=kl [0,0,387]} Tryz.func199
theorem ff:Lk (dJ a0) Wc [a0]:=lk {keep:=kl [1,2]} Tryz.func200
theorem Is:Lk (zB a0) VS [a0]:=lk {keep:=kl [1,1]} Tryz.func201
theorem wt:Lk (nX a0 a1) VH [a0,a1]:=lk {live:=kl [0,0,0,8192],keep:=kl [3,3,35,14369,14369,14497,14625,289,256,14369],rest:=kl [0,0,0,6177]} Tryz.func202
theorem xA:Lk (o5 a0) Nm [a0]:=lk {keep:=kl [1,1]} Tryz.func203
theorem zR:Lk (rb a0) VT [a0]:=lk {keep:=kl [1,1]} Tryz.func206
theorem Ao:Lk (rj a0 a1) YT [a0,a1]:=lk {keep:=kl [3,9,0,9,105,40,0,0,9,0,9],plan:=dl [(8,.c [0,1,2,3,4,5,6,7,8,9]),(10,.c [0,1,2,3,4,5,1094,71,8,9,74])]} Tryz.func207
theorem zd:Lk (qE a0) YU [a0]:=lk {keep:=kl [1,5,4,5],plan:=dl [(3,.c [0,1,2,3,4,5,6,7,8,9,74])]} Tryz.func208
theorem BG:Lk (rV a0 a1 a2) YV [a0,a1,a2]:=lk {keep:=kl [7,7,0,7,135,132,0,0,7,3]} Tryz.func209
theorem zc:Lk (qe a0) YW [a0]:=lk {keep:=kl [1,1,0,1]} Tryz.func210
theorem xp:Lk (pe a0) WV [a0]:=lk {keep:=kl [1,1]} Tryz.func211
theorem sy:Lk (kN a0) YX [a0]:=lk {keep:=kl [1,1]} Tryz.func212
theorem tn:Lk (tm a0) YY [a0]:=lk {keep:=kl [1,1,0,1]} Tryz.func213
theorem wj:Lk (nC a0 a1) ZC [a0,a1]:=lk {keep:=kl [3,3]} Tryz.func214
theorem DQ:Lk wx YZ []:=lk {} Tryz.func218
theorem LP:Lk (DO a0) Y0 [a0]:=lk {keep:=kl [1,2,58]} Tryz.func219
theorem E9:Lk (wm a0) WW [a0]:=lk {keep:=kl [1,1]} Tryz.func221
theorem Ii:Lk (Ab a0) WX [a0]:=lk {keep:=kl [1,1]} Tryz.func222
theorem wG:Lk (nJ a0 a1) Y1 [a0,a1]:=lk {keep:=kl [3,3]} Tryz.func224
theorem t7:Lk (mA a0 a1 a2 a3) WY [a0,a1,a2,a3]:=lk {keep:=kl [15,45,131117,45,1541,1024,517,3076,3076,1024,131117,45,12297,8192,4105,131085,13,0,13,49156,49156,32768,5,0,5],plan:=dl [(11,.c [0,1,2,3,4,69,6,7,8,9,10]),(24,.c [0,1,2,3,4,5,6,7,72,9])],joinC:=fun | 8=>some ([10],[]) | 20=>some ([15],[]) | _=>none} Tryz.func226
theorem BO:Lk (rY a0) WZ [a0]:=lk {keep:=kl [1,1]} Tryz.func228
theorem DA:Lk (uV a0) Y2 [a0]:=lk {keep:=kl [1,1,1,1,1]} Tryz.func229
theorem Di:Lk (uM a0 a1) VU [a0,a1]:=lk {keep:=kl [3,3]} Tryz.func230
noncomputable def o9:qx:={ live:=fun | _=>[],keep:=fun | 0=>[0,1] | 1=>[0,3,4,5] | 2=>[3,4,5,16] | 3=>[3,4,5,7] | 4=>[4,5,8,9] | 5=>[4,5,8] | 6=>[4,5] | _=>[],rest:=fun | _=>[],plan:=fun | 3=>.c [0,1,2,3,4,69,6,7,8,9,10] | _=>.c [],joinC:=fun | _=>none,joinB:=fun | _=>none }
theorem vH:Lk (nV a0 a1) Y4 [a0,a1]:=lk {live:=fun|4=>[20]|_=>[],keep:=kl [3,3,35,35,1835041,1835041,1835169,1835297,289,256,1835041],rest:=kl [0,0,0,0,786465]} Tryz.func232
theorem xi:Lk (pd a0 a1 a2) W0 [a0,a1,a2]:=lk {keep:=kl [7,7,0,7,135,133,0,7,0,7],plan:=dl [(7,.c [0,1,2,3,4,5,6,7,8,9])]} Tryz.func234
theorem AX:Lk (ri a0 a1) Y5 [a0,a1]:=lk {live:=kl [0,0,8192],keep:=kl [3,3,14338,14338,14466,128,14338],rest:=kl [0,0,6146]} Tryz.func237
theorem ot:Lk (iq a0 a1) W4 [a0,a1]:=lk {keep:=kl [3,3,1,1,1,33,97,0,3,256]} Tryz.func238
theorem FR:Lk (xU a0) Y6 [a0]:=lk {keep:=kl [1,29,61,188,188,188,60,188,188,60,188,188,188,188,188,60,188,188,60,188,28,188,60,156,28,28],plan:=dl [(25,.c [0,1,2,451,324,69]),(9,.c [0,1,194,67]),(15,.c [0,1,2,451,324,69]),(18,.c [0,1,2,195,68,69])],joinC:=fun | 4=>some ([2,3,4,5,7],[8]) | 5=>some ([2,3,4,5,7],[8]) | 6=>some ([2,3,4],[]) | 8=>some ([2,3,4,5,7],[13]) | 9=>some ([2,3,4],[]) | 11=>some ([2,3,4,5,7],[18]) | 12=>some ([2,3,4,5,7],[18]) | 13=>some ([2,3,4,5,7],[18]) | 14=>some ([2,3,4,5,7],[18]) | 15=>some ([2,3,4],[]) | 17=>some ([2,3,4,5,7],[27]) | 18=>some ([2,3,4],[]) | 20=>some ([2,3,4],[]) | 22=>some ([2,3,4],[]) | 24=>some ([2,3,4],[]) | _=>none} Tryz.func241
theorem Kl:Lk (Cn a0) Y7 [a0]:=lk {keep:=kl [1,1]} Tryz.func242
theorem zP:Lk (qQ a0 a1) We [a0,a1]:=lk {keep:=kl [3,6]} Tryz.func243
theorem Aa:Lk (qZ a0 a1) Y8 [a0,a1]:=lk {keep:=kl [3,3,0,3]} Tryz.func244
theorem EH:Lk (vg a0 a1) Wp [a0,a1]:=lk {keep:=kl [3,3,0,3]} Tryz.func259
theorem Ac:Lk (qX a0 a1 a2) Y9 [a0,a1,a2]:=lk {keep:=kl [7,7,0,7]} Tryz.func260
theorem FM:Lk (yc a0 a1) Za [a0,a1]:=lk {keep:=kl [3,3,65,0,65,449,256,193,193,65]} Tryz.func261
theorem IU:Lk (AF a0 a1) Zb [a0,a1]:=lk {keep:=kl [3,3,227,35,163,35,131,131,128],joinC:=fun | 3=>some ([0,1,5],[7]) | 5=>some ([0,1],[7]) | 7=>some ([7],[]) | _=>none} Tryz.func262
theorem xq:Lk (pf a0 a1) Wf [a0,a1]:=lk {keep:=kl [3,3,65,65]} Tryz.func269
theorem yV:Lk (qr a0) VV [a0]:=lk {keep:=kl [1,1],plan:=dl [(1,.c [0,1,2,3,4,5,6,7,8,9,10,11,12])]} Tryz.func270
theorem xC:Lk (ph a0 a1 a2) W5 [a0,a1,a2]:=lk {keep:=kl [7,7,0,7,135,647,0,134]} Tryz.func271
theorem u9:Lk (oL a0 a1) W6 [a0,a1]:=lk {keep:=kl [3,9]} Tryz.func272
theorem DC:Lk (wD a0 a1) Zc [a0,a1]:=lk {keep:=kl [3,3]} Tryz.func279
theorem rI:Lk (ko a0) ZF [a0]:=lk {keep:=kl [1,1,1,1]} Tryz.func284
theorem HM:Lk (Ay a0 a1) ZG [a0,a1]:=lk {keep:=kl [3,3,0,3]} Tryz.func290
theorem IB:Lk z7 ZH []:=lk {} Tryz.func291
theorem Ga:Lk (xQ a0) Zd [a0]:=lk {live:=kl [0,0,0,0,8],keep:=kl [1,1,0,1,9,9,9,8],rest:=kl [0,0,0,0,1]} Tryz.func327
theorem FV:Lk (xW a0 a1 a2) Ze [a0,a1,a2]:=lk {keep:=kl [7,7,0,7,259,1795,771,1280,1024,256],joinC:=fun | 6=>some ([8],[10]) | _=>none} Tryz.func328
theorem FY:Lk (xR a0 a1) Zf [a0,a1]:=lk {keep:=kl [3,3,195,128,67,0,67,259,768,512,256]} Tryz.func329
theorem BT:Lk (rZ a0 a1) Zg [a0,a1]:=lk {keep:=kl [3]} Tryz.func330
theorem uQ:Lk (oz a0) Zh [a0]:=lk {live:=kl [0,0,0,32776],keep:=kl [1,1,9,57352,57352,57384,57352,8],rest:=kl [0,0,0,24576]} Tryz.func336
theorem jX:Lk (fT a0 a1) Zi [a0,a1]:=lk {live:=kl [0,0,256],keep:=kl [3,3,387,387,419,32,387],rest:=kl [0,0,131]} Tryz.func337
theorem tf:Lk (lY a0 a1) W7 [a0,a1]:=lk {keep:=kl [3,6]} Tryz.func338
theorem CH:Lk (tJ a0) Zj [a0]:=lk {keep:=kl [1,1]} Tryz.func344
theorem Ir:Lk (A0 a0) Wg [a0]:=lk {keep:=kl [1,1,0,1]} Tryz.func365
theorem uY:Lk (nL a0 a1) Zk [a0,a1]:=lk {keep:=kl [3,18]} Tryz.func366
theorem xG:Lk (pn a0) Zl [a0]:=lk {keep:=kl [1,1]} Tryz.func368
theorem BS:Lk (so a0) Zm [a0]:=lk {keep:=kl [1,1]} Tryz.func398
theorem yO:Lk (qz a0) Zn [a0]:=lk {keep:=kl [1,5,4,5,5,5]} Tryz.func399
theorem yH:Lk (qC a0 a1) Zo [a0,a1]:=lk {keep:=kl [3,9,9,9,9,9,1],plan:=dl [(2,.c [0,1,2,3,68,5]),(5,.c [0,1,2,3,4,5,6,7,8,9,10,11,12,13,14])],joinC:=fun | 3=>some ([],[]) | 4=>some ([],[]) | 6=>some ([],[]) | _=>none} Tryz.func400
theorem sW:Lk (lH a0) Wh [a0]:=lk {keep:=kl [1,1]} Tryz.func401
theorem px:Lk (jf a0 a1) Wi [a0,a1]:=lk {keep:=kl [3,9,9,1],joinC:=fun | 2=>some ([0],[]) | _=>none} Tryz.func402
theorem rF:Lk (ky a0 a1 a2 a3) ge [a0,a1,a2,a3]:=lk {keep:=kl [15]} Tryz.func403
theorem xz:Lk (oV a0 a1) Zp [a0,a1]:=lk {keep:=kl [3,9,9,9,9,9,9,1],plan:=dl [(4,.c [0,1,2,3,68,5]),(5,.c [0,1,2,3,4,69]),(6,.c [0,1,2,3,4,5,6,7])],joinC:=fun | 4=>some ([],[]) | 5=>some ([],[]) | 7=>some ([],[]) | _=>none} Tryz.func404
theorem qN:Lk (jM a0 a1) Wj [a0,a1]:=lk {keep:=kl [3,9,0,1,1],plan:=dl [(1,.c [0,1,2,3,4,5,6])]} Tryz.func405
theorem yC:Lk (qn a0) Zq [a0]:=lk {keep:=kl [1,1]} Tryz.func406
theorem vA:Lk (ox a0) Zr [a0]:=lk {keep:=kl [1,5,4,5,4,5],plan:=dl [(5,.c [0,1,2,3,4,5,6,7,8,9,10,11,76,13])]} Tryz.func407
theorem v8:Lk (og a0 a1) Zs [a0,a1]:=lk {keep:=kl [3,1,9,9,9,9,9,9,9,1,1,1],plan:=dl [(2,.c [0,1,2,3,68,5]),(10,.c [0,1,2,3,4,5,6,7,8,9]),(4,.c [0,1,2,3,4,5,582,7,8,73]),(6,.c [0,1,2,3,4,69,6]),(7,.c [0,1,2,3,4,5,70]),(8,.c [0,1,2,3,4,5,6,7,8,9,10,11,12,13,14,15])],joinC:=fun | 4=>some ([0],[]) | 7=>some ([],[]) | 11=>some ([],[]) | _=>none} Tryz.func408
theorem yN:Lk (p8 a0) Zt [a0]:=lk {keep:=kl [1,1]} Tryz.func409
theorem wz:Lk (ov a0) Zu [a0]:=lk {keep:=kl [1,5,4,5,16389,5,16389,5,21,16389,4,16389,5,16389,5,16389,5,16389,5,5],plan:=dl [(5,.c [0,1,2,3,4,5,6,7,8,9,10,11,76,13]),(7,.c [0,1,2,3,4,5,6,7,8,9,17482,75]),(8,.c [0,1,2,3,4,5,6,7,8,9,10,11,12,13,14,15,16,81,18]),(12,.c [0,1,2,3,4,5,6,7,8,9,74,11]),(14,.c [0,1,2,3,4,5,6,7,8,9,10,11,76,13]),(16,.c [0,1,2,3,4,5,6,7,8,9,10,11,12,13,14,15,16,17,18,19,20,21,22,87,24]),(18,.c [0,1,2,3,4,5,6,7,8,9,10,11,12,13,14,15,16,81,18]),(19,.c [0,1,2,3,4,5,6,7,8,9,10,11,12,13,14,15,16,17,18,19,20,85,22])]} Tryz.func410
theorem uU:Lk (n7 a0 a1) Zv [a0,a1]:=lk {keep:=kl [3,9,9,4105,4105,9,4105,4105,9,4105,9,4097,1,1,4097,1,1,4097,1,1],plan:=dl [(1,.c [0,1,2,3,68])],joinC:=fun | 4=>some ([0,3,12],[13]) | 5=>some ([],[]) | 7=>some ([0,3,12],[19]) | 8=>some ([],[]) | 10=>some ([],[]) | 12=>some ([],[]) | 15=>some ([],[]) | 18=>some ([],[]) | _=>none} Tryz.func411
theorem uD:Lk (mG a0) W8 [a0]:=lk {keep:=kl [1,1]} Tryz.func412
theorem vq:Lk (oD a0 a1) Zw [a0,a1]:=lk {keep:=kl [3,1,9,9,9,9,9,1,1],plan:=dl [(7,.c [0,1,2,3,4,5,6,7,8,1097,74,11,12,77])],joinC:=fun | 3=>some ([],[]) | 5=>some ([],[]) | 7=>some ([],[]) | _=>none} Tryz.func413
theorem uB:Lk (mu a0 a1) Zx [a0,a1]:=lk {keep:=kl [3,1,9,1,9,9,9,1,1,1],plan:=dl [(8,.c [0,1,2,3,4,5,6,7,8,9])],joinC:=fun | 3=>some ([],[]) | 5=>some ([],[]) | 7=>some ([],[]) | 9=>some ([],[]) | _=>none} Tryz.func414
theorem tC:Lk (lC a0 a1) Zy [a0,a1]:=lk {keep:=kl [3,1,1,9,9,9,1],plan:=dl [(5,.c [0,1,2,3,4,5,6,7,8,9,10,11,12,13,14])],joinC:=fun | 4=>some ([],[]) | 6=>some ([],[]) | _=>none} Tryz.func415
theorem ud:Lk (mK a0) W9 [a0]:=lk {keep:=kl [1,1,1],plan:=dl [(0,.c [0,1,2,3,4,5,6,7,8,9])],joinC:=fun | 1=>some ([],[]) | _=>none} Tryz.func416
theorem vQ:Lk (oo a0) Xa [a0]:=lk {keep:=kl [1,1],plan:=dl [(0,.c [0,1,2,3,4,5,6,7,8,9])],joinC:=fun | 1=>some ([],[]) | _=>none} Tryz.func417
theorem uC:Lk (mS a0) Xb [a0]:=lk {keep:=kl [1,1],plan:=dl [(0,.c [0,1,2,3,4,5,6,7,8,9]),(1,.c [0,1,2,3,4,5,6,7,8,9,10,11,12,13,14,79])],joinC:=fun | 1=>some ([],[]) | _=>none} Tryz.func418
theorem wy:Lk (oG a0 a1) Xc [a0,a1]:=lk {keep:=kl [3,9,9],plan:=dl [(1,.c [0,1,2,3,68,5])],joinC:=fun | 2=>some ([],[]) | _=>none} Tryz.func419
theorem ww:Lk (nF a0 a1 a2 a3) VW [a0,a1,a2,a3]:=lk {keep:=kl [15,1,1]} Tryz.func420
theorem uo:Lk (mQ a0) Xd [a0]:=lk {keep:=kl [1,1,1,1,13,5,1,1],rest:=kl [0,1],plan:=dl [(1,.c [0,1,2,3,4,5,6,7,8,9]),(3,.c [0,1,2,3,4,5,6,7,8,9,10,11,12,13,14,79,16,17,18,19,20]),(5,.c [0,1,2,3,4,5,6,7,8,9,10,11,12,13,14,15,16,17,18,19])]} Tryz.func421
theorem n9:Lk (iz a0 a1) Zz [a0,a1]:=lk {live:=kl [0,0,0,384],keep:=kl [3,3,67,451,451,963,835,707,195],rest:=kl [0,0,0,67],joinC:=fun | 6=>some ([0,1,6],[7,8]) | _=>none} Tryz.func422
theorem yw:Lk (qd a0) ZA [a0]:=lk {keep:=kl [1,1]} Tryz.func423
end
end Go.Proofs.YtoealglbimbbmaaGreatDoor.S
