import Derived.Test.YtoealglbimbbmaaGreatDoorTChk
import Derived.Test.YtoealglbimbbmaaGreatDoorTPn
import Derived.Test.YtoealglbimbbmaaGreatDoorTRes
set_option linter.defProp false
set_option linter.unusedVariables false
set_option linter.unusedSimpArgs false
namespace Go.Proofs.YtoealglbimbbmaaGreatDoor.S
open Go Go.Proofs
set_option maxRecDepth 100000
def NI (o:Int):Int×Int×Int×Bool :=
 if o=1 then(7,-1,-1,true)else if o=2\/o=10 then(7,7,-1,false)else if 3<=o/\o<=7 then(7,7,7,false)else if o=8\/o=9 then(7,7,15,false)
 else if o=11\/o=21 then(7,-1,-1,false)else if o=12 then(-1,-1,40,false)else if o=13 then(7,-1,40,false)else if o=23 then(12,7,6,false)
 else if(14<=o/\o<=20)\/o=22 then(-1,-1,-1,false)else(0,0,0,false)
abbrev VX (o:Int)(s:ByteArray):Value:=.tuple #[.agg #[.string s,i64 (NI o).1,i64 (NI o).2.1,i64 (NI o).2.2.1,.bool (NI o).2.2.2],.bool (decide (1<=o/\o<=23))]
def US (n m:Int):Bool:=(decide (n=0)&&decide (m<0))||(decide (0<=n)&&decide (n<=m))
section
variable {w0:bz}{L M:List bg}{K:KV}{v:Value}{C:bg->List bg}{b:Nat}{op:Int}{p:List co}
def yB {n m:Int}(hK:G w0 L (K (.bool (US n m)))):G w0 L (ac 95 [i64 n,i64 m] K):=by
 refine Qn ?_
 unfold DZ
 unfold US at hK
 refine mK ?_
 by_cases b:n=0
 ·subst b
  by_cases d:m<0
  ·refine ca (eq_true d) ?_
   simpa[d]using hK
  ·have a:(0:Int)<=m:=by omega
   refine ca (an d (eq_true a)) ?_
   simpa[d,a]using hK
 ·by_cases c:(0:Int)<=n
  ·by_cases a:n<=m
   ·refine ca (an b (an (eq_true c) (eq_true a))) ?_
    simpa[b,c,a]using hK
   ·refine ca (an b (an (eq_true c) a)) ?_
    simpa[b,c,a]using hK
  ·refine ca (an b c) ?_
   simpa[b,c]using hK
abbrev nmA:List ByteArray:=[⟨#[97,100,100]⟩,⟨#[115,117,98]⟩,⟨#[109,117,108]⟩,⟨#[108,101,115,115]⟩,⟨#[101,113,117,97,108]⟩]
abbrev nmB:List ByteArray:=[⟨#[111,112,101,110]⟩,⟨#[99,108,111,115,101]⟩,⟨#[117,110,100,111]⟩,⟨#[101,105,116,104,101,114]⟩,⟨#[111,114]⟩,⟨#[100,111,110,101]⟩,⟨#[114,101,116,114,121]⟩]
def VA {o:Int}(h:∀w,St w0 L w->Calls Tryz.prog 94 #[i64 o] w λe w'=>(∃s:ByteArray,e=.returned (VX o s))/\St w0 L w')(hK:∀s:ByteArray,G w0 L (K (VX o s))):G w0 L (ac 94 [i64 o] K):=λw H =>
 ⟨⟨_,Tryz.func94,by kernel_rfl,by kernel_rfl⟩,(h w H).mono λe w' he=>by obtain⟨⟨s,rfl⟩,h2⟩:=he;exact hK s _ h2⟩
def ZY {q:Nat}{tmps:Array Value}{s:ByteArray}{a b c:Int}{t:Bool}{w:World}(H:St w0 (own q [.string s,i64 a,i64 b,i64 c,.bool t]::L) w)(l:tmps[2]? = some (ptr q 0))(j:tmps[3]? = some (.bool true)):(results Tryz.f94 tmps).run Tryz.prog w=.ok (.tuple #[.agg #[.string s,i64 a,i64 b,i64 c,.bool t],.bool true]) w:=by
 have i:Tryz.f94.results.toList=[.cell 2 184,.tmp 3]:=by kernel_rfl
 have g:=H.bo.2.1
 obtain⟨_,v,f,h⟩:=xe (E:=Y0) (fn:=Tryz.f94) (fr:=[(2,some (ptr q 0)),(3,some (.bool true))]) (a:={ tmps:=tmps,defers:=[] }) (K:=λv _=>v=.tuple #[.agg #[.string s,i64 a,i64 b,i64 c,.bool t],.bool true]) (w:=w) (n:=tmps.size) ⟨rfl,λk u d=>by
  rw[qo,qo]at d
  simp only at d
  split at d
  ·rename_i e;subst e;cases d;exact l
  ·split at d
   ·rename_i e;subst e;cases d;exact j
   ·cases d⟩ rfl (by
  rw[i]
  have e:∀K:KV,OQ Y0 [.cell 2 184,.tmp 3] [(2,some (ptr q 0)),(3,some (.bool true))] K w=br 5 (ptr q 0) (λv w=>K (.tuple #[v,.bool true]) w) w:=λK=>by kernel_rfl
  rw[e]
  unfold br
  simp only[g]
  exact⟨zs,rfl⟩)
 rw[h]at f
 exact f
def ai3 {o:Int}(ho:o=3\/o=4\/o=5\/o=6\/o=7){w:World}(H:St w0 L w):Calls Tryz.prog 94 #[i64 o] w λe w'=>(∃s:ByteArray,e=.returned (VX o s))/\St w0 L w':=by
 rcases ho with rfl|rfl|rfl|rfl|rfl
 all_goals
  have x0:∀w:World,(Instr.index 237 (.agg #[.string ⟨#[97,100,100]⟩,.string ⟨#[115,117,98]⟩,.string ⟨#[109,117,108]⟩,.string ⟨#[108,101,115,115]⟩,.string ⟨#[101,113,117,97,108]⟩]) (.int .i64 0)).run Tryz.prog w=.ok (.string (nmA.getD 0 ⟨#[]⟩)) w:=λ_=>by kernel_rfl
  have x1:∀w:World,(Instr.index 237 (.agg #[.string ⟨#[97,100,100]⟩,.string ⟨#[115,117,98]⟩,.string ⟨#[109,117,108]⟩,.string ⟨#[108,101,115,115]⟩,.string ⟨#[101,113,117,97,108]⟩]) (.int .i64 1)).run Tryz.prog w=.ok (.string (nmA.getD 1 ⟨#[]⟩)) w:=λ_=>by kernel_rfl
  have x2:∀w:World,(Instr.index 237 (.agg #[.string ⟨#[97,100,100]⟩,.string ⟨#[115,117,98]⟩,.string ⟨#[109,117,108]⟩,.string ⟨#[108,101,115,115]⟩,.string ⟨#[101,113,117,97,108]⟩]) (.int .i64 2)).run Tryz.prog w=.ok (.string (nmA.getD 2 ⟨#[]⟩)) w:=λ_=>by kernel_rfl
  have x3:∀w:World,(Instr.index 237 (.agg #[.string ⟨#[97,100,100]⟩,.string ⟨#[115,117,98]⟩,.string ⟨#[109,117,108]⟩,.string ⟨#[108,101,115,115]⟩,.string ⟨#[101,113,117,97,108]⟩]) (.int .i64 3)).run Tryz.prog w=.ok (.string (nmA.getD 3 ⟨#[]⟩)) w:=λ_=>by kernel_rfl
  have x4:∀w:World,(Instr.index 237 (.agg #[.string ⟨#[97,100,100]⟩,.string ⟨#[115,117,98]⟩,.string ⟨#[109,117,108]⟩,.string ⟨#[108,101,115,115]⟩,.string ⟨#[101,113,117,97,108]⟩]) (.int .i64 4)).run Tryz.prog w=.ok (.string (nmA.getD 4 ⟨#[]⟩)) w:=λ_=>by kernel_rfl
  go_enter Tryz.func94,Tryz.ntmps94
  go_wp2
  exact bodyPost_ret (ZY (H.alloc _ _) rfl rfl) rfl ⟨⟨_,rfl⟩,(H.alloc _ _).drop⟩
set_option maxHeartbeats 2000000 in
def ajb {o:Int}(ho:o=14\/o=15\/o=16\/o=17\/o=18\/o=19\/o=20){w:World}(H:St w0 L w):Calls Tryz.prog 94 #[i64 o] w λe w'=>(∃s:ByteArray,e=.returned (VX o s))/\St w0 L w':=by
 rcases ho with rfl|rfl|rfl|rfl|rfl|rfl|rfl
 all_goals
  have x0:∀w:World,(Instr.index 238 (.agg #[.string ⟨#[111,112,101,110]⟩,.string ⟨#[99,108,111,115,101]⟩,.string ⟨#[117,110,100,111]⟩,.string ⟨#[101,105,116,104,101,114]⟩,.string ⟨#[111,114]⟩,.string ⟨#[100,111,110,101]⟩,.string ⟨#[114,101,116,114,121]⟩]) (.int .i64 0)).run Tryz.prog w=.ok (.string (nmB.getD 0 ⟨#[]⟩)) w:=λ_=>by kernel_rfl
  have x1:∀w:World,(Instr.index 238 (.agg #[.string ⟨#[111,112,101,110]⟩,.string ⟨#[99,108,111,115,101]⟩,.string ⟨#[117,110,100,111]⟩,.string ⟨#[101,105,116,104,101,114]⟩,.string ⟨#[111,114]⟩,.string ⟨#[100,111,110,101]⟩,.string ⟨#[114,101,116,114,121]⟩]) (.int .i64 1)).run Tryz.prog w=.ok (.string (nmB.getD 1 ⟨#[]⟩)) w:=λ_=>by kernel_rfl
  have x2:∀w:World,(Instr.index 238 (.agg #[.string ⟨#[111,112,101,110]⟩,.string ⟨#[99,108,111,115,101]⟩,.string ⟨#[117,110,100,111]⟩,.string ⟨#[101,105,116,104,101,114]⟩,.string ⟨#[111,114]⟩,.string ⟨#[100,111,110,101]⟩,.string ⟨#[114,101,116,114,121]⟩]) (.int .i64 2)).run Tryz.prog w=.ok (.string (nmB.getD 2 ⟨#[]⟩)) w:=λ_=>by kernel_rfl
  have x3:∀w:World,(Instr.index 238 (.agg #[.string ⟨#[111,112,101,110]⟩,.string ⟨#[99,108,111,115,101]⟩,.string ⟨#[117,110,100,111]⟩,.string ⟨#[101,105,116,104,101,114]⟩,.string ⟨#[111,114]⟩,.string ⟨#[100,111,110,101]⟩,.string ⟨#[114,101,116,114,121]⟩]) (.int .i64 3)).run Tryz.prog w=.ok (.string (nmB.getD 3 ⟨#[]⟩)) w:=λ_=>by kernel_rfl
  have x4:∀w:World,(Instr.index 238 (.agg #[.string ⟨#[111,112,101,110]⟩,.string ⟨#[99,108,111,115,101]⟩,.string ⟨#[117,110,100,111]⟩,.string ⟨#[101,105,116,104,101,114]⟩,.string ⟨#[111,114]⟩,.string ⟨#[100,111,110,101]⟩,.string ⟨#[114,101,116,114,121]⟩]) (.int .i64 4)).run Tryz.prog w=.ok (.string (nmB.getD 4 ⟨#[]⟩)) w:=λ_=>by kernel_rfl
  have x5:∀w:World,(Instr.index 238 (.agg #[.string ⟨#[111,112,101,110]⟩,.string ⟨#[99,108,111,115,101]⟩,.string ⟨#[117,110,100,111]⟩,.string ⟨#[101,105,116,104,101,114]⟩,.string ⟨#[111,114]⟩,.string ⟨#[100,111,110,101]⟩,.string ⟨#[114,101,116,114,121]⟩]) (.int .i64 5)).run Tryz.prog w=.ok (.string (nmB.getD 5 ⟨#[]⟩)) w:=λ_=>by kernel_rfl
  have x6:∀w:World,(Instr.index 238 (.agg #[.string ⟨#[111,112,101,110]⟩,.string ⟨#[99,108,111,115,101]⟩,.string ⟨#[117,110,100,111]⟩,.string ⟨#[101,105,116,104,101,114]⟩,.string ⟨#[111,114]⟩,.string ⟨#[100,111,110,101]⟩,.string ⟨#[114,101,116,114,121]⟩]) (.int .i64 6)).run Tryz.prog w=.ok (.string (nmB.getD 6 ⟨#[]⟩)) w:=λ_=>by kernel_rfl
  go_enter Tryz.func94,Tryz.ntmps94
  go_wp2
  exact bodyPost_ret (ZY (H.alloc _ _) rfl rfl) rfl ⟨⟨_,rfl⟩,(H.alloc _ _).drop⟩
def RD {o:Int}(hK:∀s:ByteArray,G w0 L (K (VX o s))):G w0 L (ac 94 [i64 o] K):=by
 by_cases u:o=3\/o=4\/o=5\/o=6\/o=7
 ·exact VA (λw H=>ai3 u H) hK
 by_cases y:o=14\/o=15\/o=16\/o=17\/o=18\/o=19\/o=20
 ·exact VA (λw H=>ajb y H) hK
 refine QT ?_
 unfold GO
 refine G.new λq=>?_
 by_cases E:o=1\/o=2\/o=8\/o=9\/o=10\/o=11\/o=12\/o=13\/o=21\/o=22\/o=23
 ·rcases E with rfl|rfl|rfl|rfl|rfl|rfl|rfl|rfl|rfl|rfl|rfl
  all_goals
   have e:IntKind.wrap .i64 (7-1)=6:=by decide
   refine bx e ?_
   exact(hK _).sub
 ·have C:¬o=1:=by omega
  have D:¬o=2:=by omega
  have t:¬o=3:=by omega
  have A:¬o=4:=by omega
  have v:¬o=5:=by omega
  have x:¬o=6:=by omega
  have F:¬o=7:=by omega
  have B:¬o=8:=by omega
  have z:¬o=9:=by omega
  have n:¬o=10:=by omega
  have p:¬o=11:=by omega
  have i:¬o=12:=by omega
  have h:¬o=13:=by omega
  have b:¬o=14:=by omega
  have d:¬o=15:=by omega
  have j:¬o=16:=by omega
  have a:¬o=17:=by omega
  have k:¬o=18:=by omega
  have g:¬o=19:=by omega
  have c:¬o=20:=by omega
  have f:¬o=21:=by omega
  have l:¬o=22:=by omega
  have m:¬o=23:=by omega
  have e:∀s,VX o s=.tuple #[.agg #[.string s,i64 0,i64 0,i64 0,.bool false],.bool false]:=λs=>by
   have:NI o=(0,0,0,false):=by unfold NI;repeat' rw[zn]
   have r:decide (1<=o/\o<=23)=false:=decide_eq_false zo
   rw[VX,this,r]
  have hK:=hK ⟨#[]⟩
  rw[e]at hK
  refine bx (an C (an D (an t (an A (an v (an x (an F (an B (an z (an n (an p (an i (an h (an b (an d (an j (an a (an k (an g (an c (an f (an l m)))))))))))))))))))))) ?_
  exact hK.sub
def agq {i:co}:BJ i=(decide (1<=i.op/\i.op<=23)&&((NI i.op).2.2.2||decide (i.n=0))&&US i.a (NI i.op).1&&US i.b (NI i.op).2.1&&US i.c (NI i.op).2.2.1&&(!decide (i.op=23)||decide (1<=i.a))):=by
 by_cases h:1<=i.op/\i.op<=23
 ·have d:i.op=1\/i.op=2\/i.op=3\/i.op=4\/i.op=5\/i.op=6\/i.op=7\/i.op=8\/i.op=9\/i.op=10\/i.op=11\/i.op=12\/i.op=13\/i.op=14\/i.op=15\/i.op=16\/i.op=17\/i.op=18\/i.op=19\/i.op=20\/i.op=21\/i.op=22\/i.op=23:=by omega
  rw[zaF]
  unfold BJ yQ QP NI US
  rcases d with e|e|e|e|e|e|e|e|e|e|e|e|e|e|e|e|e|e|e|e|e|e|e<;>(rw[e];simp;omega)
 all_goals grind[BJ]
def Xg {i:co}(hK:G w0 L (K (.bool (BJ i)))):G w0 L (ac 64 [.agg #[i64 i.op,i64 i.a,i64 i.b,i64 i.c,u64 i.n]] K):=by
 refine WC ?_
 unfold M4
 refine G.box λq=>bi ?_
 refine RD λs=>?_
 rw[agq]at hK
 unfold VX
 generalize NI i.op=R at hK ⊢
 obtain⟨v,u,p,f⟩:=R
 simp only at hK ⊢
 generalize w:decide (1<=i.op/\i.op<=23)=t at hK ⊢
 refine bi ?_
 refine G.new λx=>mK ?_
 cases t with
 |false =>
  refine bi ?_
  exact hK.sub
 |true =>
  by_cases h:f=true\/i.n=0
  ·have e:(f||decide (i.n=0))=true:=by rcases h with g|g<;>simp[g]
   rw[e]at hK
   simp only[za6]at hK
   rcases Bool.eq_false_or_eq_true f with g|g<;>subst g
   all_goals try(have j:i.n=0:=by simpa using h)
   all_goals(refine bi ?_)
   all_goals try(refine bx (eq_true j) ?_)
   all_goals
    refine yB ?_
    cases l:US i.a v
    ·rw[l]at hK
     refine bi ?_
     exact hK.sub
    rw[l]at hK
    refine bi ?_
    refine yB ?_
    cases m:US i.b u
    ·rw[m]at hK
     refine bi ?_
     exact hK.sub
    rw[m]at hK
    refine bi ?_
    refine yB ?_
    cases o:US i.c p
    ·rw[o]at hK
     refine bi ?_
     exact hK.sub
    rw[o]at hK
    by_cases d:i.op=23
    ·rw[decide_eq_true d]at hK
     refine bx (eq_true d) ?_
     exact hK.sub
    ·rw[decide_eq_false d]at hK
     refine bx d ?_
     exact hK.sub
  ·have r:f=false:=by simpa using λg=>h (.inl g)
   have k:¬i.n=0:=λg=>h (.inr g)
   subst r
   have e:(false||decide (i.n=0))=false:=by simp[k]
   rw[e]at hK
   refine bx k ?_
   exact hK.sub
end
end Go.Proofs.YtoealglbimbbmaaGreatDoor.S
namespace Go.Proofs.YtoealglbimbbmaaGreatDoor.S
open Go Go.Proofs
structure abU where
 aG:Int
 op:Int
abbrev zB:uk abU:=⟨2,λa=>[i64 a.aG,i64 a.op],λ | [.int .i64 x0,.int .i64 x1]=>some ⟨x0,x1⟩|_=>none,zd,λ_=>rfl,by simp[one],λcs a h=>by split at h<;>cases h;rfl⟩
instance {a:abU}:nR zB a [i64 a.aG,i64 a.op]:=⟨rfl⟩
instance {x y:Int}:A5 zB [i64 x,i64 y] ⟨x,y⟩:=⟨rfl⟩
section
variable {w0:bz}{L M:List bg}{K:KV}{v:Value}{C:bg->List bg}{b:Nat}{op:Int}{p:List co}{s:List Int}{k n:Nat}{e:Int}
def PT (h:gD p (k+1)=e)(he:e≠0):∀{n:Nat},k+1<=n->gD p n=e
 |0,hn=>by omega
 |n+1,hn=>by
  by_cases c:k=n
  ·subst c;exact h
  ·have:=PT h he (n:=n) zo
   unfold gD
   rw[this,zp he]
def SA (h:mV p (k+1)=true):∀{n:Nat},k+1<=n->mV p n=true
 |0,hn=>by omega
 |n+1,hn=>by
  by_cases c:k=n
  ·subst c;exact h
  ·have:=SA h (n:=n) zo
   unfold mV
   rw[this];rfl
def pe (p:List co)(s:List Int):List abU:=(s.map λi=>(⟨i,(p.getD i.toNat H7).op⟩:abU)).reverse
def kJ:(pe p s).length=s.length:=by simp[pe]
theorem Md {i:Int}:iW (pe p (i::s)) s.length ⟨i,(p.getD i.toNat H7).op⟩:=⟨by unfold pe;rw[zaj,zaN,zaR zs];simp⟩
def SD {i:Int}:(pe p (i::s)).take s.length=pe p s:=by unfold pe;rw[zaj,zaN,za4 zs];exact zat zs
def FG {i:Int}:pe p (i::s)=pe p s++[⟨i,(p.getD i.toNat H7).op⟩]:=by unfold pe;rw[zaj,zaN]
def acB {i j:Int}:(pe p (i::s)).set s.length ⟨j,(p.getD j.toNat H7).op⟩=pe p (j::s):=by
 rw[FG,FG,zbE _ _ (by rw[kJ];exact LT _),kJ,za8];rfl
def V5 {x:co}(a:BJ x=true):js p s x=if 0<gq x.op/\Mp p s≠gq x.op then 12 else if x.op=16/\Mp p s≠14 then 12 else if fk x.op=true/\5<=s.length then 9 else 0:=by grind[js]
set_option maxHeartbeats 2000000 in
def Re [r:Rd w0 L v fx 5 p](hv:ax v [v])(hl:p.length<=1000)(hK:∀a u1 u2,G w0 L (K (.tuple #[i64 a,i64 (pb p),u1,u2]))):G w0 L (ac 33 [.agg #[v]] K):=by
 refine RA ?_
 unfold HD
 refine G.box λq=>mK ?_
 by_cases c0:p.length=0
 ·have e:pb p=4:=by unfold pb;rw[zp (.inl c0)]
  rw[e]at hK
  have c1:(p.length:Int)=0:=by omega
  refine bx (eq_true c1) ?_
  exact(hK _ _ _).sub
 by_cases aU:40<p.length
 ·have e:pb p=4:=by unfold pb;rw[zp (.inr aU)]
  rw[e]at hK
  have c1:¬(p.length:Int)=0:=by omega
  have c2:(40:Int)<p.length:=by omega
  refine bx (an c1 (eq_true c2)) ?_
  exact(hK _ _ _).sub
 have c1:¬(p.length:Int)=0:=by omega
 have c2:¬(40:Int)<p.length:=by omega
 have w:pb p=if gD p p.length≠0 then gD p p.length else if cd p p.length≠[]then 12 else if mV p p.length then 2 else 0:=by unfold pb;rw[zn]
 refine bx (an c1 c2) ?_
 refine⟨?_,?_⟩
 all_goals
  refine G.make bq 0 rfl (by simp only[maxLen];omega) zo λV aP=>bi ?_
  refine G.make bq 0 rfl (by simp only[maxLen];omega) zo λW aT=>bi ?_
 rotate_left
 revert aT W aP V
 intro W aT V aP
 rotate_left
 all_goals
  refine G.a3 zB ?_
  refine G.sub (L':=sl zB (.slice none 0 0) []::sl bq V (List.replicate p.length 0)::sl bq W (List.replicate p.length 0)::own q [v]::L) ?_
  refine G.bN (σ:=Nat×Value×List Int) (λz=>z.2.1) (λz=>i64 z.1) (λz=>sl zB z.2.1 (pe p (cd p z.1))::sl bq V ((bh p).take z.1++List.replicate (p.length-z.1) 0)::sl bq W z.2.2::own q [v]::L) (λz=>z.1<=p.length/\gD p z.1=0/\z.2.2.length=p.length/\ax z.2.1 [z.2.1]) (λz=>p.length-z.1) (0,.slice none 0 0,List.replicate p.length 0) rfl rfl (by simp[pe,cd]) ⟨zag _,rfl,zs,bj⟩ ?_
  rintro⟨k,vs,A⟩ ⟨hk,hw,U,al⟩ J hJ
  simp only at hk hw U al hJ ⊢
  obtain⟨aH,l⟩:=Is (p:=p) (k:=k) hk
  have aM:((bh p).take k).length=k:=by rw[zaC,mY];omega
  refine ar ?_
  refine G.cond (λh=>?_) (λh=>?_)
  ·have t:k<p.length:=by simpa using h
   have e:=dm t
   have er:iW ((bh p).take k++List.replicate (p.length-k) (0:Int)) k 0:=⟨by rw[zaR zo,aM,za8,zaP,zp]⟩
   have em:iW A k (A.getD k 0):=md zo
   have aX:((bh p).take k++List.replicate (p.length-k) (0:Int)).set k (iM (cd p k))=(bh p).take (k+1)++List.replicate (p.length-(k+1)) 0:=by
    rw[zbE _ _ zo,aM,za8,show p.length-k=(p.length-(k+1))+1 by omega,zbo,zbO,zaV,lP t,zaG]
    rfl
   have E:p.getD k H7=p[k]:=yr t
   have B:cd p (k+1)=gI (cd p k) k p[k].op:=by rw[<-E];rfl
   have aI:gD p (k+1)=js p (cd p k) p[k]:=by
    unfold gD
    rw[zn (λg=>g hw),<-E]
   have X:js p (cd p k) p[k]≠0->pb p=js p (cd p k) p[k]:=λg=>by
    have:=PT aI g (n:=p.length) zo
    rw[w,this,zp g]
   have Z:js p (cd p k) p[k]=0->gD p (k+1)=0:=λg=>aI.trans g
   generalize p[k]=x at e E B aI X Z
   refine G.new λqi=>ar ?_
   refine G.eo (σ:=Unit) (λ_=>own qi [i64 (iM (cd p k)),i64 (Mp p (cd p k))]::sl zB vs (pe p (cd p k))::sl bq V ((bh p).take k++List.replicate (p.length-k) 0)::sl bq W A::own q [v]::L) (λ_=>True) (λ_ _=>?_) (λj hj=>?_)
   ·refine bi ?_
    rw[aX]
    refine Xg ?_
    cases F:BJ x
    ·have e8:js p (cd p k) x=8:=by unfold js;rw[zp F]
     have hK:=hK k (.slice none 0 0) (.slice none 0 0)
     rw[X (by rw[e8];decide),e8]at hK
     refine bi ?_
     exact hK.sub
    have d:=V5 (p:=p) (s:=cd p k) F
    obtain⟨o,xa,xb,xc,xn⟩:=x
    simp only at B E d
    have D:∀z:Int,z≠0->js p (cd p k) ⟨o,xa,xb,xc,xn⟩=z->G w0 L (K (.tuple #[i64 k,i64 z,.slice none 0 0,.slice none 0 0])):=λz hz g=>by
     have:=hK k (.slice none 0 0) (.slice none 0 0)
     rw[X (by rw[g];exact hz),g]at this
     exact this
    have b:js p (cd p k) ⟨o,xa,xb,xc,xn⟩=0->∀(u:Value) (I:List Int),ax u [u]->I.length=p.length->G w0 (sl zB u (pe p (cd p (k+1)))::sl bq V ((bh p).take (k+1)++List.replicate (p.length-(k+1)) 0)::sl bq W I::own q [v]::L) (J u (i64 (IntKind.wrap .i64 ((k:Int)+1)))):=λg u I hu aN=>by
     rw[fm zo]
     exact hJ (k+1,u,I) ⟨t,Z g,aN,hu⟩ (by simp only;omega)
    have O:(A.set k (-1)).length=p.length:=by rw[zaZ];exact U
    have Y:Mp p (cd p k)≠0->∃i s,cd p k=i::s/\0<=i/\i<p.length:=λg=>by
     cases N:cd p k with
     |nil=>rw[N]at g;exact absurd rfl g
     |cons i s=>exact⟨i,s,rfl,aH i (by rw[N];simp)⟩
    by_cases aE:o=15
    ·subst aE
     simp[gq,fk]at d
     by_cases c:Mp p (cd p k)=14
     ·rw[zp c]at d
      obtain⟨i,s,N,i0,i1⟩:=Y (by rw[c];decide)
      have b:=b d
      have C:gI (i::s) k 15=s:=by simp[gI,gq,fk]
      rw[B,N,C]at b
      rw[N]at c l ⊢
      have H:((pe p (i::s)).length:Int)=s.length+1:=by rw[kJ];simp
      have e1:IntKind.wrap .i64 ((s.length:Int)+1-1)=s.length:=by
       simp only[zad]at l
       rw[jL zo zo];omega
      have ix:JD (iM (i::s)) i.toNat:=⟨by show i=_;omega⟩
      have aK:iW (A.set k (-1)) i.toNat ((A.set k (-1)).getD i.toNat 0):=md zo
      refine bx (an (eq_true c) (an H e1)) ?_
      refine G.take (m:=s.length) (by rw[kJ];simp) λu hu=>?_
      rw[SD]
      refine bi ?_
      exact(b u ((A.set k (-1)).set i.toNat (k:Int)) hu (by rw[zaZ];exact O)).sub
     ·rw[zn c]at d
      have hK:=D 12 zd d
      refine bx c ?_
      exact hK.sub
    by_cases aA:o=19
    ·subst aA
     simp[gq,fk]at d
     by_cases c:Mp p (cd p k)=18
     ·rw[zp c]at d
      obtain⟨i,s,N,i0,i1⟩:=Y (by rw[c];decide)
      have b:=b d
      have C:gI (i::s) k 19=s:=by simp[gI,gq,fk]
      rw[B,N,C]at b
      rw[N]at c l ⊢
      have H:((pe p (i::s)).length:Int)=s.length+1:=by rw[kJ];simp
      have e1:IntKind.wrap .i64 ((s.length:Int)+1-1)=s.length:=by
       simp only[zad]at l
       rw[jL zo zo];omega
      have ix:JD (iM (i::s)) i.toNat:=⟨by show i=_;omega⟩
      have aK:iW (A.set k (-1)) i.toNat ((A.set k (-1)).getD i.toNat 0):=md zo
      refine bx (an (eq_true c) (an H e1)) ?_
      refine G.take (m:=s.length) (by rw[kJ];simp) λu hu=>?_
      rw[SD]
      refine bi ?_
      exact(b u ((A.set k (-1)).set i.toNat (k:Int)) hu (by rw[zaZ];exact O)).sub
     ·rw[zn c]at d
      have hK:=D 12 zd d
      refine bx c ?_
      exact hK.sub
    by_cases aF:o=18
    ·subst aF
     simp[gq,fk]at d
     by_cases c:Mp p (cd p k)=17
     ·rw[zp c]at d
      obtain⟨i,s,N,i0,i1⟩:=Y (by rw[c];decide)
      have b:=b d
      have C:gI (i::s) k 18=(k:Int)::s:=by simp[gI,gq,fk]
      have eo:(p.getD ((k:Nat):Int).toNat H7).op=18:=by rw[show((k:Nat):Int).toNat=k by omega,E]
      have aS:=acB (p:=p) (s:=s) (i:=i) (j:=(k:Int))
      rw[eo]at aS
      rw[B,N,C,<-aS]at b
      rw[N]at c l ⊢
      have H:((pe p (i::s)).length:Int)=s.length+1:=by rw[kJ];simp
      have e1:IntKind.wrap .i64 ((s.length:Int)+1-1)=s.length:=by
       simp only[zad]at l
       rw[jL zo zo];omega
      have ix:JD (iM (i::s)) i.toNat:=⟨by show i=_;omega⟩
      have aK:iW (A.set k (-1)) i.toNat ((A.set k (-1)).getD i.toNat 0):=md zo
      have el:=Md (p:=p) (i:=i) (s:=s)
      refine bx (an (eq_true c) (an H e1)) ?_
      exact(b vs ((A.set k (-1)).set i.toNat (k:Int)) al (by rw[zaZ];exact O)).sub
     ·rw[zn c]at d
      have hK:=D 12 zd d
      refine bx c ?_
      exact hK.sub
    by_cases f:o=16
    ·subst f
     simp[gq,fk]at d
     by_cases c:Mp p (cd p k)=14
     ·rw[zp c]at d
      have b:=b d
      have C:gI (cd p k) k 16=cd p k:=by simp[gI,gq,fk]
      rw[B,C]at b
      refine bx (eq_true c) ?_
      exact(b vs _ al O).sub
     ·rw[zn c]at d
      have hK:=D 12 zd d
      refine bx c ?_
      exact hK.sub
    by_cases am:o=14
    ·subst am
     simp[gq,fk]at d
     have S:((pe p (cd p k)).length:Int)=(cd p k).length:=by rw[kJ]
     by_cases c:5<=(cd p k).length
     ·rw[zp c]at d
      have hK:=D 9 zd d
      have T:(5:Int)<=(cd p k).length:=by omega
      refine bx (an S (eq_true T)) ?_
      exact hK.sub
     ·rw[zn c]at d
      have b:=b d
      have C:gI (cd p k) k 14=(k:Int)::cd p k:=by simp[gI,gq,fk]
      rw[B,C,FG]at b
      have eo:(p.getD ((k:Nat):Int).toNat H7).op=14:=by rw[show((k:Nat):Int).toNat=k by omega,E]
      rw[eo]at b
      have T:¬(5:Int)<=(cd p k).length:=by omega
      refine bx (an S T) ?_
      refine G.build zB [⟨k,14⟩] rfl zd rfl λy hy=>?_
      refine G.append (v:=vs) (ys:=[(⟨k,14⟩:abU)]) (by rw[kJ];simp;omega) (by rw[kJ];simp[maxLen];omega) λu hu=>bi ?_
      exact(b u _ hu O).sub
    by_cases aG:o=17
    ·subst aG
     simp[gq,fk]at d
     have S:((pe p (cd p k)).length:Int)=(cd p k).length:=by rw[kJ]
     by_cases c:5<=(cd p k).length
     ·rw[zp c]at d
      have hK:=D 9 zd d
      have T:(5:Int)<=(cd p k).length:=by omega
      refine bx (an S (eq_true T)) ?_
      exact hK.sub
     ·rw[zn c]at d
      have b:=b d
      have C:gI (cd p k) k 17=(k:Int)::cd p k:=by simp[gI,gq,fk]
      rw[B,C,FG]at b
      have eo:(p.getD ((k:Nat):Int).toNat H7).op=17:=by rw[show((k:Nat):Int).toNat=k by omega,E]
      rw[eo]at b
      have T:¬(5:Int)<=(cd p k).length:=by omega
      refine bx (an S T) ?_
      refine G.build zB [⟨k,17⟩] rfl zd rfl λy hy=>?_
      refine G.append (v:=vs) (ys:=[(⟨k,17⟩:abU)]) (by rw[kJ];simp;omega) (by rw[kJ];simp[maxLen];omega) λu hu=>bi ?_
      exact(b u _ hu O).sub
    have d:js p (cd p k) ⟨o,xa,xb,xc,xn⟩=0:=by rw[d];simp[gq,fk,am,aE,f,aG,aF,aA]
    have b:=b d
    have C:gI (cd p k) k o=cd p k:=by simp[gI,gq,fk,am,aE,aG,aF,aA]
    rw[B,C]at b
    refine bx (an am (an aE (an f (an aG (an aF aA))))) ?_
    exact(b vs _ al O).sub
   ·have hj:=hj () trivial
    cases N:cd p k with
    |nil =>
     rw[N]at hj
     have hj:G w0 (own qi [i64 (-1),i64 0]::sl zB vs (pe p [])::sl bq V ((bh p).take k++List.replicate (p.length-k) 0)::sl bq W A::own q [v]::L) j:=hj
     have aL:((pe p ([]:List Int)).length:Int)=0:=by simp[pe]
     refine bx aL ?_
     exact hj.sub
    |cons i s =>
     rw[N]at hj aH l
     have hj:G w0 (own qi [i64 i,i64 (p.getD i.toNat H7).op]::sl zB vs (pe p (i::s))::sl bq V ((bh p).take k++List.replicate (p.length-k) 0)::sl bq W A::own q [v]::L) j:=hj
     have H:((pe p (i::s)).length:Int)=s.length+1:=by rw[kJ];simp
     have c1:(0:Int)<(s.length:Int)+1:=by omega
     have e1:IntKind.wrap .i64 ((s.length:Int)+1-1)=s.length:=by
      simp only[zad]at l
      rw[jL zo zo];omega
     have el:=Md (p:=p) (i:=i) (s:=s)
     refine bx (an H (an (eq_true c1) e1)) ?_
     exact hj.sub
  ·have t:k=p.length:=by
    have:¬k<p.length:=by simpa using h
    omega
   have S:((pe p (cd p k)).length:Int)=(cd p k).length:=by rw[kJ]
   rw[t]at hw aH l aM
   subst t
   rw[zn (λg=>g hw)]at w
   cases N:cd p p.length with
   |cons i s =>
    rw[N]at l w S
    rw[zp zs]at w
    rw[w]at hK
    have H:((pe p (i::s)).length:Int)=s.length+1:=by rw[kJ];simp
    have c1:(0:Int)<(s.length:Int)+1:=by omega
    have e1:IntKind.wrap .i64 ((s.length:Int)+1-1)=s.length:=by
     simp only[zad]at l
     rw[jL zo zo];omega
    have el:=Md (p:=p) (i:=i) (s:=s)
    refine bx (an H (an (eq_true c1) e1)) ?_
    exact(hK _ _ _).sub
   |nil =>
    rw[N,zn zs]at w
    have aL:((pe p ([]:List Int)).length:Int)=0:=by simp[pe]
    have aR:(bh p).take p.length++List.replicate (p.length-p.length) 0=bh p:=by rw[za8,zat (by rw[mY];exact LT _)];simp
    rw[aR]
    refine ca aL ?_
    refine G.a8 (σ:=Nat×List Int) (λz=>i64 z.1) (λz=>sl zB vs (pe p [])::sl bq V (bh p)::sl bq W z.2::own q [v]::L) (λz=>z.1<=p.length/\mV p z.1=false/\z.2.length=p.length) (λz=>p.length-z.1) (0,A) rfl rfl ⟨zag _,rfl,U⟩ ?_
    clear U
    rintro⟨k,A⟩ ⟨hk,hj,U⟩ J2 hJ2
    simp only at hk hj U hJ2 ⊢
    refine ar ?_
    refine G.cond (λh=>?_) (λh=>?_)
    ·have t:k<p.length:=by simpa using h
     have e:=dm t
     have E:p.getD k H7=p[k]:=yr t
     have aC:=Fi t hw
     have F:=UA aC
     have aO:=(Is (p:=p) (k:=k) zo).1
     rw[E]at aC F
     have aJ:mV p (k+1)=jx p k p[k]:=by
      unfold mV
      rw[hj,<-E];rfl
     have er:iW (bh p) k ((bh p).getD k 0):=md (by rw[mY];exact t)
     have aY:(bh p).getD k 0=iM (cd p k):=by rw[ge,lP t];rfl
     have em:iW A k (A.getD k 0):=md zo
     generalize p[k]=x at e E aC F aJ
     have b:jx p k x=false->∀I:List Int,I.length=p.length->G w0 (sl zB vs (pe p [])::sl bq V (bh p)::sl bq W I::own q [v]::L) (J2 (i64 (IntKind.wrap .i64 ((k:Int)+1)))):=λg I aN=>by
      rw[fm zo]
      exact hJ2 (k+1,I) ⟨t,aJ.trans g,aN⟩ (by simp only;omega)
     have af:jx p k x=true->G w0 L (K (.tuple #[i64 k,i64 2,.slice none 0 0,.slice none 0 0])):=λg=>by
      rw[SA (aJ.trans g) (n:=p.length) zo]at w
      rw[w]at hK
      exact hK _ _ _
     refine bi ?_
     refine G.new λqx=>?_
     by_cases f:x.op=16
     ·have Q:jx p k x=false:=by unfold jx ym;rw[f];rfl
      have aV:cd p k≠[]:=λg=>by
       have:=V5 (p:=p) (s:=cd p k) F
       rw[aC,g,f]at this
       simp[gq,fk,Mp]at this
      have hi:=Lb aV aO
      rw[<-aY]at hi
      have ix:JD ((bh p).getD k 0) ((bh p).getD k 0).toNat:=⟨zo⟩
      have aK:iW A ((bh p).getD k 0).toNat (A.getD ((bh p).getD k 0).toNat 0):=md zo
      have aB:¬x.op=12:=by omega
      have aD:¬x.op=13:=by omega
      refine bx (an (eq_true f) (an aB aD)) ?_
      exact(b Q (A.set k (A.getD ((bh p).getD k 0).toNat 0)) (by rw[zaZ];exact U)).sub
     by_cases M:x.op=12\/x.op=13
     ·have aQ:ym x.op=true:=by unfold ym;rcases M with g|g<;>rw[g]<;>rfl
      obtain⟨a0,aZ⟩:=adR F aQ
      have P:jx p k x=(decide ((p.length:Int)<x.c)||(decide (x.c=p.length)&&decide ((bh p).getD k 0≠-1))||(decide (x.c<p.length)&&decide ((bh p).getD x.c.toNat 0≠(bh p).getD k 0))):=by unfold jx;rw[aQ];rfl
      generalize(bh p).getD k 0=R at er P
      have a1:(jx p k x=false->G w0 (own qx (co.cells x)::sl zB vs (pe p [])::sl bq V (bh p)::sl bq W A::own q [v]::L) (J2 (i64 (IntKind.wrap .i64 ((k:Int)+1))))):=λg=>(b g A U).sub
      by_cases c:x.c<p.length
      ·have a2:JD x.c x.c.toNat:=⟨zo⟩
       have aW:iW (bh p) x.c.toNat ((bh p).getD x.c.toNat 0):=md (by rw[mY];omega)
       generalize(bh p).getD x.c.toNat 0=R2 at aW P
       by_cases c3:R2=R
       ·have Q:jx p k x=false:=by rw[P];simp[c3];omega
        rcases M with g|g
        ·refine bx (an f (an (eq_true g) (an (eq_true c) (eq_true c3)))) ?_
         exact(b Q A U).sub
        ·have g2:¬x.op=12:=by omega
         refine bx (an f (an g2 (an (eq_true g) (an (eq_true c) (eq_true c3))))) ?_
         exact(b Q A U).sub
       ·have Q:jx p k x=true:=by rw[P];simp[c3,c]
        have c4:¬x.c=p.length:=by omega
        have hK:=af Q
        rcases M with g|g
        ·refine bx (an f (an (eq_true g) (an (eq_true c) (an c3 c4)))) ?_
         exact hK.sub
        ·have g2:¬x.op=12:=by omega
         refine bx (an f (an g2 (an (eq_true g) (an (eq_true c) (an c3 c4))))) ?_
         exact hK.sub
      ·by_cases c4:x.c=p.length
       ·by_cases T:R=-1
        ·have Q:jx p k x=false:=by rw[P];simp[T];omega
         rcases M with g|g
         ·refine bx (an f (an (eq_true g) (an c (an (eq_true c4) (eq_true T))))) ?_
          exact(b Q A U).sub
         ·have g2:¬x.op=12:=by omega
          refine bx (an f (an g2 (an (eq_true g) (an c (an (eq_true c4) (eq_true T)))))) ?_
          exact(b Q A U).sub
        ·have Q:jx p k x=true:=by rw[P];simp[T,c4]
         have hK:=af Q
         rcases M with g|g
         ·refine bx (an f (an (eq_true g) (an c (an (eq_true c4) T)))) ?_
          exact hK.sub
         ·have g2:¬x.op=12:=by omega
          refine bx (an f (an g2 (an (eq_true g) (an c (an (eq_true c4) T))))) ?_
          exact hK.sub
       ·have Q:jx p k x=true:=by rw[P];simp;omega
        have hK:=af Q
        rcases M with g|g
        ·refine bx (an f (an (eq_true g) (an c c4))) ?_
         exact hK.sub
        ·have g2:¬x.op=12:=by omega
         refine bx (an f (an g2 (an (eq_true g) (an c c4)))) ?_
         exact hK.sub
     ·have aB:¬x.op=12:=λg=>M (.inl g)
      have aD:¬x.op=13:=λg=>M (.inr g)
      have Q:jx p k x=false:=by unfold jx ym;simp[aB,aD]
      refine bx (an f (an aB aD)) ?_
      exact(b Q A U).sub
    ·have t:k=p.length:=by
      have:¬k<p.length:=by simpa using h
      omega
     subst t
     rw[zn (by rw[hj];decide)]at w
     rw[w]at hK
     exact(hK 0 V W).sub
end
abbrev TL:List co:=[⟨8,0,7,6,0⟩,⟨1,1,0,0,1⟩,⟨3,0,0,1,0⟩,⟨9,7,0,6,0⟩,⟨21,0,0,0,0⟩]
def aer:nI TL:=by unfold nI;decide
abbrev Wp:cv:=⟨40,4,0,0,0,0,9,20⟩
abbrev ρA:qI:=λr s=>CT 401 r s
def awT (x:eU)(sl:ByteArray):eU:=match x.ad with
 | [t]=>if(ai t).2=true then bw ρA x 0 t 0 sl else kz x 0 t
 |_=>x
def awR:Nat->eU
 |0=>gy Wp [[TL]]
 |k+1=>awT (awR k) (R5 [.num 1])
def aid (x:eU):Bool:=match x.ad with
 | [t]=>(match t.aj with
  |some a=>(match a.run with|some r=>r.prog.all λi=>!decide (i.op=23)|none=>true)&&(decide (t.B≠1)||decide ((ah ρA a (ag x.mem (ai t).1).2).B≠8)||((ah ρA a (ag x.mem (ai t).1).2).done&&(match(ah ρA a (ag x.mem (ai t).1).2).run with|some r=>decide (r.af=[.num 1])|none=>false)))
  |none=>true)
 |_=>false
def ah8:((List.range 40).all λk=>aid (awR k))=true:=by decide +kernel
def ahi (x:eU):Bool:=decide (x.mem.w.length=40)&&decide (x.mem.w[6]? = some 1)&&vP x.ad&&decide ((aeq x).length=1)&&(match x.ad with
 | [t]=>(match t.aX with | [r]=>r.dB.toList == [49]|_=>false)
 |_=>false)
def aiw:ahi (awR 40)=true:=by decide +kernel
section
variable {w0:bz}{L M:List bg}{K:KV}{F:World->Prop}{C:bg->List bg}{b:Nat}{x:eU}{v:Value}{S:cv}{h0:Hp}{n:Nat}{LG:jZ}{t:bm}
def jJ.eV {G:Gs}{nl nw i:Nat}{a:az}(h:jJ S h0 n G nl nw i a)(o:a.B≠8)(m:nW a):Nb a:=by
 have c:a.done=true->a.Z.bh=true:=λg=>by
  have b:a.Z.wr=true:=by simpa[o]using g
  cases e:a.Z with
  |com f=>rfl
  |none=>rw[e]at b;cases b
  |fetch f=>rw[e]at b;cases b
  |ext f=>rw[e]at b;cases b
 have d:=h.bZ.a6
 obtain⟨k,j,l⟩:=h.cj.cells
 exact⟨zo,zo,λg=>(h.bR (.inl (c g))).1,h.a4.1,λg=>⟨(h.bR (.inl (c g))).2,m.af⟩⟩
def aeA {ρ:qI}(c:da ρ){a:az}(d:∀r,a.run=some r->zW r a.v)(e:∀r,a.run=some r->∀i∈r.prog,i.op≠23):iu ρ a=iu ρA a:=by
 unfold iu
 cases b:a.run with
 |none=>rfl
 |some r=>simp only;rw[(c.q r a.v (d r b)).fb (e r b)]
def adK {ρ:qI}(C:da ρ){G:Gs}{nl nw i:Nat}{a:az}{an:ii}(h:jJ S h0 n G nl nw i a)(D:∀r,a.run=some r->∀i∈r.prog,i.op≠23):ah ρ a an=ah ρA a an:=by
 unfold ah
 by_cases g:a.B=8
 ·rw[zp g,zp g]
 rw[zn g,zn g]
 by_cases k:a.B=0
 ·rw[zp k,zp k]
 rw[zn k,zn k]
 by_cases d:a.B=1
 ·rw[zp d,zp d]
 rw[zn d,zn d]
 by_cases b:a.B=2
 ·rw[zp b,zp b]
  unfold iq
  rw[aeA C (h.run zo).1 D]
 rw[zn b,zn b]
 by_cases j:a.B=7
 ·rw[zp j,zp j]
 rw[zn j,zn j]
 have m:=h.st
 unfold bu
 have w:nr ρ { a with Z:=a.Z.br an }=nr ρA { a with Z:=a.Z.br an }:=by
  by_cases z:a.B=3
  ·obtain⟨_,f,x,_⟩:=h.cx z
   have t:=(h.run zo).1
   have e:({ a with Z:=a.Z.br an }:az)={ a with Z:=.fetch (bp f an) }:=by rw[x]
   rw[e]
   show cq ρ { a with Z:=.fetch (bp f an) } (bp f an)=cq ρA { a with Z:=.fetch (bp f an) } (bp f an)
   unfold cq iq
   have s:∀{y:Int},(uu a.v a.v.a9 y).1.l=a.v.l:=Uk
   rw[aeA C (a:=ju { a with Z:=.fetch (bp f an) } (bp f an)) (λr o=>(t r o).lv s) D]
  ·by_cases p:a.B=6
   ·obtain⟨c,A,_⟩:=h.com p
    have e:({ a with Z:=a.Z.br an }:az)={ a with Z:=.com (bk c an) }:=by rw[A]
    rw[e]
   ·obtain⟨_,q,u,_⟩:=h.ext zo
    have e:({ a with Z:=a.Z.br an }:az)={ a with Z:=.ext (fa q an) }:=by rw[u]
    rw[e]
 rw[w]
def ahO {ρ:qI}(z:da ρ){sl:ByteArray}(y:MI S h0 n x LG)(h:aid x=true)(ht:x.ad=[t])(e:∀a,t.aj=some a->B2 (ah ρ a (ag x.mem (ai t).1).2) sl):(if(ai t).2=true then bw ρ x 0 t 0 sl else kz x 0 t)=awT x (R5 [.num 1]):=by
 unfold awT
 rw[ht]
 simp only
 by_cases g:(ai t).2=true
 ·rw[zp g,zp g]
  have f:∀p,thrTell ρ t (ag x.mem (ai t).1).2 0 p sl=thrTell ρA t (ag x.mem (ai t).1).2 0 p (R5 [.num 1]):=λp=>by
   unfold aid at h
   rw[ht]at h
   simp only at h
   unfold thrTell
   by_cases d:t.B=1
   ·rw[zp d,zp d]
    obtain⟨a,j,w,_⟩:=(y.ad 0 t (by rw[ht];rfl)).run d
    rw[j]at h
    simp only[j]at h ⊢
    have e:=e a j
    rw[GE]at h
    obtain⟨m,h⟩:=h
    rw[adK z w (λr c i v=>by
     rw[c]at m
     have:=zaM.1 m i v
     simpa using this)]at e ⊢
    generalize ah ρA a (ag x.mem (ai t).1).2=a' at h e ⊢
    unfold ml
    by_cases k:a'.B=8
    ·simp only[d,k,ne_eq,not_true,decide_false,zba,GE]at h
     obtain⟨q,c⟩:=h
     cases b:a'.run with
     |none=>rw[b]at c;cases c
     |some r =>
      rw[b]at c
      have s:r.af=[.num 1]:=by simpa using c
      have o:=e (by simpa[az.done,k]using q) r b
      rw[s]at o
      have u:=o 1 rfl zd
      subst u
      rfl
    ·have l:¬(a'.B=8/\a'.O≠0):=λh=>k h.1
     simp only[zn l]
   ·rw[zn d,zn d]
  unfold bw
  rw[f]
 ·rw[zn g,zn g]
def afV (ht:Cj w0){i:Nat}{draw:Int}(e:MI S h0 n x LG)(m:E1 x)(o:x.au<=1000000)(hi:x.ad[i]? = some t)(hd:0<=draw)(l:draw<=255)[p:ae L oH b x C]
  (hK:∀x',(∃L',MI S h0 n x' L')->E1 x'->x'.au=x.au+1->(∃ρ sl,da ρ/\(∀at_,t.aj=some at_->B2 (ah ρ at_ (ag x.mem (ai t).1).2) sl)/\x'=if(ai t).2=true then bw ρ x i t draw sl else kz x i t)->G w0 (C (ob oH b x')) (K (i64 0))):G w0 L (ac 15 [ptr b 0,i64 i,.int .u8 draw] K):=by
 have d:∀ρ,da ρ->t.B=1->∀a,t.aj=some a->∀n∈(ah ρ a (ag x.mem (ak a).1).2).af,zM n:=λρ c j a k=>(m.fj c (Ok hi) j k).af
 refine EN ht (x:=x) (t:=t) (Z3 e hi o d) hd l λsl ρ c h=>hK _ ?_ (m.step c hi) ?_ ⟨ρ,sl,c,h,rfl⟩
 ·by_cases g:(ai t).2=true
  ·rw[zp g];obtain⟨L',f,_⟩:=(U3 e hi o g d).2 ρ draw sl c hd;exact⟨L',f⟩
  ·rw[zn g];exact⟨_,ZR e hi (by simpa using g)⟩
 ·by_cases g:(ai t).2=true
  ·rw[zp g];rfl
  ·rw[zn g]
def XV (hK:∀s:rq,G w0 (sl fx s.v TL::L) (K (.agg #[s.v]))):G w0 L (ac 25 [i64 6] K):=by
 refine Ym ?_
 unfold PW
 refine G.new λq=>bi ?_
 refine G.build fx TL rfl zd (by kernel_rfl) λv b=>?_
 refine G.cq (v:=v) λs a=>?_
 subst a
 refine bi ?_
 exact(hK s).sub
def aei {a b:ByteArray}{K:KV}(h:(a.toList == b.toList)=true):G w0 L (yu .eql (.string a) (.string b) K)=G w0 L (K (.bool true)):=by
 congr 1
 funext w
 show Qw .eql (a.toList == b.toList) K w=_
 rw[h]
 rfl
def Wj (ht:Cj w0)(hK:G w0 L (K (.bool true))):G w0 L (ac 9 [] K):=by
 refine V8 ?_
 unfold Nc
 refine bi ?_
 refine XV λD=>?_
 refine G.build jj [D] rfl zd rfl λu1 h1=>?_
 refine G.cq (v:=u1) λE e1=>?_
 subst e1
 refine G.build jj [E] rfl zd rfl λZ h2=>?_
 refine W2 D TL ?_
 refine tI (f:=wP w0) ?_
 refine tI (f:=xy w0) ?_
 refine G.ap (As:=[wP w0 (D,TL),ob (eQ (wP w0)) () []]) ?_
 rw[Fn,Fn,GT,<-pU,GT]
 refine N8 E.v [(D,TL)] (ps:=[D]) (rs:=[TL]) rfl rfl ?_
 refine G.ap (As:=[xy w0 (E,[TL]),ob (eQ (xy w0)) () []]) ?_
 rw[Fn,Fn,GT,<-pU,GT]
 refine aaj Z [(E,[TL])] (ps:=[E]) (rs:=[[TL]]) rfl rfl ?_
 refine HF (s:=⟨40,4,0,0,0,0,9,20⟩) (rows:=[[TL]]) zd (λr n=>?_) h2 λb=>?_
 ·rw[zaf.1 n]
  exact⟨zd,λp y=>by rw[zaf.1 y];exact aer⟩
 rw[show gy ⟨40,4,0,0,0,0,9,20⟩ (Qz (([[TL]]:List (List (List co))).take 4))=awR 0 from rfl]
 have e:=Z8 (s:=Wp) (rows:=[[TL]]) zd zd (λr n=>by
  rw[zaf.1 n]
  exact⟨zd,λp y=>by rw[zaf.1 y];exact aer⟩)
 have A:=E1.new (s:=Wp) (rows:=[[TL]]) (λr n p y=>by
  rw[zaf.1 n]at y
  rw[zaf.1 y]
  unfold kY
  decide)
 rw[show gy Wp [[TL]]=awR 0 from rfl]at e A
 generalize hS:eS Wp [[TL]].length=S at e
 generalize(λc:Int=>(awR 0).mem.w.getD c.toNat 0)=h0 at e
 have hn:[[TL]].length=1:=rfl
 rw[hn]at e
 refine bi ?_
 refine G.a8 (σ:=Nat) (λz=>i64 z) (λz=>ob oH b (awR z)::ob (HG w0) Z [[TL]]::L) (λz=>z<=40/\(awR z).au=z/\E1 (awR z)/\∃Y,MI S h0 1 (awR z) Y) (λz=>40-z) 0 rfl rfl ⟨zag _,rfl,A,_,e⟩ ?_
 rintro k ⟨hk,F,R,Y,o⟩ J hJ
 refine ar ?_
 refine G.cond (λh=>?_) (λh=>?_)
 ·have m:k<40:=by simp only[decide_eq_true_eq]at h;omega
  have P:=zaM.1 ah8 k (zbz.2 m)
  obtain⟨t,d⟩:=zbW.1 o.len
  refine afV ht o R (i:=0) (t:=t) zo (by rw[d];rfl) zd zd λx' O U V j=>?_
  obtain⟨ρ,sl,hρ,hs,j⟩:=j
  rw[ahO hρ o P d hs,show awT (awR k) (R5 [.num 1])=awR (k+1)from rfl]at j
  subst j
  refine bi ?_
  rw[fm zo]
  exact(hJ (k+1) ⟨m,by rw[V,F];rfl,U,O⟩ zo).sub
 ·have m:k=40:=by simp only[decide_eq_false_iff_not]at h;omega
  subst m
  have I:=aiw
  generalize awR 40=x at o I F R ⊢
  have H:=o.len
  obtain⟨t,d⟩:=zbW.1 H
  have C:x.ad[0]? = some t:=by rw[d];rfl
  have X:=o.ad 0 t C
  unfold ahi at I
  simp only[GE,decide_eq_true_eq,d]at I
  obtain⟨⟨⟨⟨am,Q⟩,hr1⟩,hto⟩,hres⟩:=I
  obtain⟨r,n,N⟩:∃r,t.aX=[r]/\(r.dB.toList == [49])=true:=by
   revert hres
   cases h:t.aX with
   |nil=>intro g;cases g
   |cons r l=>cases l with
    |nil=>intro g;exact⟨r,rfl,g⟩
    |cons=>intro g;cases g
  refine NJ (x:=x) zo λu hu=>?_
  refine zg (x:=x) (i:=0) (t:=t) C zo (by rw[n];simp) λu3 h3=>?_
  have af:iW x.mem.w 6 1:=⟨Q⟩
  have T:(x.mem.w.length:Int)=40:=by omega
  rw[n]
  refine mK ?_
  refine bx T ?_
  refine ahR ?_
  rw[show ld [49]=.string ⟨#[49]⟩from rfl,aei (by simpa using N)]
  refine bi ?_
  refine CF (x:=x) zo ?_
  rw[d,hr1]
  refine bi ?_
  refine HU (x:=x) ht (λt' B=>?_) zo λu5 h5=>?_
  ·rw[d,zaf]at B
   subst B
   have:=X.b.bE
   refine⟨zo,λg=>?_⟩
   obtain⟨a,W,hA,h8,_⟩:=X.run g
   exact⟨a,W,hA.eV h8 ((R.ad _ (by rw[d];exact zao)).aj a W)⟩
  rw[s9]
  intro q ⟨hq1,hq2⟩
  have M:(q.length:Int)=1:=by
   have h9:=congrArg List.length hq1
   rw[zaq]at h9
   show(q.length:Int)=1
   have al:(aeq x).length=1:=hto
   omega
  repeat' (first|(with_reducible refine G.aU ?_)|(with_reducible refine G.bk ?_)|(with_reducible refine G.drew ?_)|(simp (maxSteps:=2000000) only[↓RG,RP,RB,zac,Int.reduceEq,Int.reduceLT,Int.reduceLE,Nat.reduceEqDiff,M,zaq]))
  exact hK.sub
end
end Go.Proofs.YtoealglbimbbmaaGreatDoor.S
namespace Go.Proofs.YtoealglbimbbmaaGreatDoor.S
open Go Go.Proofs
section
open Go.ChangeShapes Go.WideShapes Go.ChangeAt Go.RowKit
variable {H:Type}{enc:TypeId×Value->H}{P:Program}{w:World}{base:Nat}{spare:Nat->Bool}{heldB:Bool}
abbrev ad7:List CK:=[.i .i64,.i .i64,.i .i64,.i .i64,.i .u64]
def ahr {cs:List Value}(h:good ad7 cs):∃a:co,fx.enc a=cs/\kY a.n:=by
 obtain⟨d,y,s,_,o⟩:=o8 h
 obtain⟨j,u,f,_,g⟩:=o8 o
 obtain⟨p,x,r,_,c⟩:=o8 g
 obtain⟨m,w,q,_,b⟩:=o8 c
 obtain⟨k,v,t,i,l⟩:=o8 b
 have e:=Qt l
 exact⟨⟨d,j,p,m,k⟩,by subst e;subst t;subst q;subst r;subst f;subst s;rfl,Zg i⟩
def ajl (w:World)(sz:Nat)(Gd:List Value->Prop)(cs:List Value):Prop:=∃v n,cs=[v]/\Wl sz Gd w v n
def ahy {sz n:Nat}{d:List Value->Prop}{v:Value}(h:Wl sz d w v n):∃a:rq,v=a.v:=by
 obtain⟨c,b,rfl,_⟩:=h
 exact⟨⟨c,n,b⟩,rfl⟩
def O0 {r:Reach}{K:Nat}{t e e1:TypeId}{k:Nat}{v:Value}{d:DataW H}{ps:List MemPlace}(ht:P.underlying t=some (.slice e))(A:P.underlying e=some (.slice e1))(J:kinds P k e1=some ad7)
  (l:P.cellsOf e=1) (B:P.cellsOf e1=5) (p:Value.okWide P w r K t v) (h:DataW.Trod enc P w base spare heldB t v d ps) :
  ∃xs:List rq,Nk (bz.of w) v jj xs/\(∀x∈xs,∃cs:List co,Nk (bz.of w) x.v fx cs/\∀c∈cs,kY c.n)/\(xs.length=0\/∃el sp,d=.slice el sp/\el.length=xs.length):=by
 obtain⟨a,f,g,rfl⟩:=okWide_slice ht p
 obtain⟨o,u⟩:=h
 have z:∀(n:Nat) (cs:List Value) (y:DataW H×List MemPlace),DataW.trod enc P w base spare heldB n e cs=some y->ajl w 5 (good ad7) cs:=λn cs y h=>by
  obtain⟨v,m,i,b,_⟩:=z4 (sz:=5) A B zd (λm j y h=>Cl k e1 ad7 m j y J h) h
  exact⟨v,m,i,b⟩
 obtain⟨v,n,i,b,q⟩:=z4 (sz:=1) ht l zd z u
 obtain rfl:Value.slice a f g=v:=by simpa[Value.cells]using i
 have s:∀cs,ajl w 5 (good ad7) cs->∃a:rq,jj.enc a=cs/\∃zs:List co,Nk (bz.of w) a.v fx zs/\∀k∈zs,kY k.n:=λcs ⟨v,n,i,b⟩=>by
  obtain⟨a,rfl⟩:=ahy b
  obtain⟨zs,E,I,_⟩:=Ch fx (λk=>kY k.n) (λcs l=>ahr l) (w:=w) (v:=a.v) (n:=n) b
  grind
 obtain⟨xs,F,D,C⟩:=Ch jj _ s (w:=w) (v:=.slice a f g) (n:=n) b
 grind
end
abbrev aeO:List CK:=[.i .i64,.i .i64,.i .i64,.i .i64,.i .u64,.i .i64,.i .i64,.i .i64]
abbrev ZA:uk cv:=⟨8,cv.cells,λ | [.int .i64 x0,.int .i64 x1,.int .i64 x2,.int .i64 x3,.int .u64 x4,.int .i64 x5,.int .i64 x6,.int .i64 x7]=>some ⟨x0,x1,x2,x3,x4,x5,x6,x7⟩|_=>none,zd,λ_=>rfl,by simp[one],λcs a h=>by split at h<;>cases h;rfl⟩
def aeK {cs:List Value}(h:good aeO cs):∃a:cv,ZA.enc a=cs:=by
 obtain⟨j,J,z,_,u⟩:=o8 h
 obtain⟨o,B,k,_,l⟩:=o8 u
 obtain⟨v,F,y,_,c⟩:=o8 l
 obtain⟨s,E,w,_,b⟩:=o8 c
 obtain⟨p,C,A,_,q⟩:=o8 b
 obtain⟨f,H,i,_,m⟩:=o8 q
 obtain⟨t,D,r,_,d⟩:=o8 m
 obtain⟨x,I,n,_,g⟩:=o8 d
 have e:=Qt g
 exact⟨⟨j,o,v,s,p,f,t,x⟩,by subst e;subst n;subst r;subst i;subst A;subst w;subst y;subst k;subst z;rfl⟩
section
variable {w0:bz}{L M:List bg}{K:KV}{F:World->Prop}{C:bg->List bg}{b:Nat}{x:eU}{v:Value}{S:cv}{h0:Hp}{n:Nat}{t:bm}{rows:List (List (List co))}
def YX (ht:Cj w0){i:Nat}{draw:Int}(a:TI S h0 n rows x)(h:x.au<=1000000)(hi:x.ad[i]? = some t)(hd:0<=draw)(f:draw<=255)[l:ae L oH b x C]
  (hK:∀x',TI S h0 n rows x'->x'.au=x.au+1->(draw=0->Pk0 x i x')->G w0 (C (ob oH b x')) (K (i64 0))):G w0 L (ac 15 [ptr b 0,i64 i,.int .u8 draw] K):=by
 obtain⟨j,d⟩:=a.lv
 refine EN ht (x:=x) (t:=t) (Z3 d.mi hi h (a.ui hi)) hd f λsl ρ c k=>hK _ (a.eC hi h c hd) ?_ λe=>by subst e;exact a.fK hi c
 by_cases g:(ai t).2=true
 ·rw[zp g];rfl
 ·rw[zn g]
def abW {i:Int}{k:Value}(h:i<0\/(x.ad.length:Int)<=i)[j:ae L oH b x C](hK:G w0 L (K (i64 1))):G w0 L (ac 15 [ptr b 0,i64 i,k] K):=by
 refine j.ro (λM hK=>?_) hK
 refine rG ?_
 unfold m9
 rw[oM]at *
 intro g f l d
 have hK:=hK g f l d
 have a:((l.map (·.1)).length:Int)=x.ad.length:=by grind
 refine mK ?_
 by_cases c:i<0
 ·refine bx (eq_true c) ?_
  exact hK
 ·have e:(x.ad.length:Int)<=i:=by omega
  refine bx (an c (an a (eq_true e))) ?_
  exact hK
def Nx {i:Nat}{t:bm}(hi:x.ad[i]? = some t)(m:x.ad.length<=4)[k:ae L oH b x C](hK:G w0 L (K (i64 t.B))):G w0 L (ac 32 [ptr b 0,i64 i] K):=by
 refine k.ro (λM hK=>?_) hK
 refine Bt ?_
 unfold qD
 refine vE ?_
 unfold oA
 rw[oM]at *
 intro j f l h
 have hK:=hK j f l h
 obtain⟨p,a⟩:=XD h hi
 have e:=FX a
 have c:=UN a
 have d:¬(i:Int)<0:=by omega
 have g:¬((l.map (·.1)).length:Int)<=i:=by simp;omega
 refine mK ?_
 refine bx (an d g) ?_
 refine G.aJ (eQ qG) () ?_
 rw[nH a]
 refine EV (x:=t) ?_
 refine Ol a ?_
 exact hK.sub
def Ma:∀{l:List bm},vP l=true↔∀t∈l,t.B=6\/t.B=4
 | []=>⟨λ_ t h=>(by cases h),λ_=>rfl⟩
 |t::l=>by
  show((decide (t.B=6)||decide (t.B=4))&&vP l)=true↔_
  rw[GE,Ma (l:=l),zaw,decide_eq_true_eq,decide_eq_true_eq]
  simp
def QY (ht:Cj w0)(e:TI S h0 n rows x)(R:∀r∈rows,r.length<=4)(P:x.au<=1000)(hK:∀x',TI S h0 n rows x'->XU x'->G w0 (ob oH b x'::M) (K (.bool true))):G w0 (ob oH b x::M) (ac 26 [ptr b 0,.slice none 0 0] K):=by
 refine Q9 ?_
 unfold G4
 obtain⟨j,h⟩:=e.fG R P
 refine G.a8 (σ:=Nat×eU) (λz=>i64 z.1) (λz=>ob oH b z.2::M) (λz=>TI S h0 n rows z.2/\∃j,Sti S h0 n z.1 z.2 j) (λz=>200000-z.1) (0,x) rfl rfl ⟨e,j,h⟩ ?_
 clear h e P
 rintro⟨r,x⟩ ⟨e,j,f⟩ J hJ
 simp only at e f hJ ⊢
 have B:=f.a6
 have C:=f.lv.mi.len
 have E:=f.lv.mi.set.n4
 have L:=f.au
 have H:(r:Int)<200000:=by omega
 refine bx (eq_true H) ?_
 refine CF (x:=x) zo ?_
 cases d:vP x.ad with
 |true =>
  refine bi ?_
  exact(hK x e (Ma.1 d)).sub
 |false =>
  have l:¬XU x:=λg=>by rw[Ma.2 g]at d;cases d
  refine G.a3 bq (ahR ?_)
  refine G.sub (L':=ob oH b x::M) ?_
  refine G.a8 (σ:=Nat×eU) (λz=>i64 z.1) (λz=>ob oH b z.2::M) (λz=>z.1<=n/\TI S h0 n rows z.2/\z.2.au=x.au+z.1/\Rpt n z.1 x z.2) (λz=>n-z.1) (0,x) rfl rfl ⟨zag _,e,zs,.nil⟩ ?_
  rintro⟨k,y⟩ ⟨I,a,q,s⟩ J2 hJ2
  simp only at I a q s hJ2 ⊢
  obtain⟨Q,A⟩:=a.lv
  have u:=A.mi.len
  refine bi ?_
  refine nP (x:=y) ?_
  rw[u]
  by_cases c:k<n
  ·have w:(k:Int)<n:=by omega
   have p:k<y.ad.length:=by omega
   refine bx (eq_true w) ?_
   refine YX ht a (i:=k) (t:=y.ad[k]) (draw:=0) zo (dg p) zd zd λN o O v=>bi ?_
   rw[fm zo]
   exact(hJ2 (k+1,N) ⟨c,o,by simp only;omega,s.cons c (v rfl)⟩ (by simp only;omega)).sub
  ·have m:k=n:=by omega
   subst m
   have w:¬(k:Int)<k:=by omega
   obtain⟨F,D⟩:=f.on s.all l
   refine bx w ?_
   rw[fm zo]
   exact(hJ (r+1,y) ⟨a,F,D⟩ (by simp only;omega)).sub
def aht (r:List (List co)):Prop:=1<=r.length/\r.length<=4/\∀p∈r,nI p/\∀k∈p,kY k.n
set_option maxHeartbeats 4000000 in
def Po (ht:Cj w0){g:cv}{xv kv pv:Value}{xs ks:List rq}{ps:List KE}{bG:Bool}[a1:Nk w0 xv jj xs][a2:Nk w0 kv jj ks][a3:Nk w0 pv Oy ps]
  (hs0:good aeO (ZA.enc g)) (hq1:∀x∈xs,∃cs:List co,Nk w0 x.v fx cs/\∀c∈cs,kY c.n) (hq2:∀x∈ks,∃cs:List co,Nk w0 x.v fx cs/\∀c∈cs,kY c.n) (hr3:∀x∈ps,good YQ (Oy.enc x)) (hK:G w0 L (K (.bool true))) :
  G w0 L (ac 7 [.agg (cv.cells g).toArray,xv,kv,pv,.bool bG] K):=by
 refine QM ?_
 unfold D4
 refine G.box λx1=>?_
 refine Wj ht (mK ?_)
 refine bi ?_
 refine G.a3 jj ?_
 refine tI (f:=xy w0) ?_
 have fz:∀(a b:Bool) (K:KV),fl (.bool a) true (λK=>K (.bool b)) (.bool false) K=K (.bool (a&&b)):=λa b K=>by funext w;cases a<;>simp[fl,Y7]
 refine G.bN (σ:=Nat×List (rq×List (List co))×Value) (λz=>z.2.2) (λz=>i64 z.1) (λz=>ob (eQ (xy w0)) () z.2.1::sl jj z.2.2 (z.2.1.map (·.1))::own x1 (cv.cells g)::L) (λz=>z.2.1.length=z.1/\z.1<=5/\(∀p∈z.2.1,aht p.2)/\ax z.2.2 [z.2.2]) (λz=>5-z.1) (0,[],.slice none 0 0) rfl rfl rfl ⟨rfl,zd,zs,bj⟩ ?_
 rintro⟨i,l,M⟩ ⟨hl,hi,Y,aK⟩ J N
 simp only at hl hi Y aK N ⊢
 refine bx fz ?_
 refine G.cond (λh=>?_) (λh=>?_)
 ·simp only[GE,decide_eq_true_eq]at h
  have T:i<xs.length:=by omega
  have e:iW xs i xs[i]:=⟨dg T⟩
  obtain⟨p0,bt,ba⟩:=hq1 _ (zae T)
  generalize xs[i]=s0 at e bt
  refine bi ?_
  refine G.cond (λaR=>?_) (λaR=>?_)
  ·refine bi ?_
   exact hK.sub
  have aR:p0.length<=60:=by grind
  refine bi ?_
  refine G.build jj [s0] rfl zd rfl λy hy=>bi ?_
  refine acO s0 p0 ?_
  refine tI (f:=wP w0) ?_
  rw[jc,<-pU,GT]
  have ei:IntKind.wrap .i64 ((i:Int)+3)=(i:Int)+3:=jL zo zo
  refine G.bN (σ:=Nat×List (rq×List co)×Value) (λz=>z.2.2) (λz=>i64 z.1) (λz=>ob (eQ (wP w0)) () z.2.1::sl jj z.2.2 (z.2.1.map (·.1))::ob (eQ (xy w0)) () l::sl jj M (l.map (·.1))::own x1 (cv.cells g)::L) (λz=>i<=z.1/\z.1<=i+3/\z.2.1.length=z.1-i+1/\(∀p∈z.2.1,nI p.2/\∀k∈p.2,kY k.n)/\ax z.2.2 [z.2.2]) (λz=>i+3-z.1) (i,[(s0,p0)],y) rfl rfl rfl ⟨LT _,by simp only;omega,zs,λp F=>by rw[zaf.1 F];exact⟨by show p0.length<=1000;omega,ba⟩,hy⟩ ?_
  rintro⟨j,r,vy⟩ ⟨a9,aY,A,Q,bb⟩ J2 C
  simp only at a9 aY A Q bb C ⊢
  refine bx (an fz ei) ?_
  refine G.cond (λhh=>?_) (λhh=>?_)
  ·simp only[GE,decide_eq_true_eq]at hh
   have aQ:j<ks.length:=by omega
   have e2:iW ks j ks[j]:=⟨dg aQ⟩
   obtain⟨p1,aZ,bn⟩:=hq2 _ (zae aQ)
   generalize ks[j]=s1 at e2 aZ
   refine bi ?_
   refine LA (ps:=p1) bn λs2 p2 aG al=>bi ?_
   refine G.build jj [s2] rfl zd rfl λy2 a5=>bi ?_
   refine G.append (E:=jj) (v:=vy) (xs:=r.map λz:rq×List co=>z.1) (ys:=[s2]) (by simp;omega) (by simp[maxLen];omega) λu hu=>bi ?_
   rw[fm zo]
   have I:=C (j+1,r++[(s2,p2)],u) ⟨by simp only;omega,by simp only;omega,by simp;omega,λp F=>by
    rcases zar.1 F with q|q
    ·exact Q p q
    ·rw[zaf.1 q]
     exact⟨aG,λk hk=>(al k hk).2⟩,hu⟩ (by simp only;omega)
   simp only[zal,zaj,zaL]at I
   refine W2 s2 p2 ?_
   refine G.ap (As:=[wP w0 (s2,p2),ob (eQ (wP w0)) () r]) ?_
   rw[Fn,Fn,GT,<-pU]
   exact I.sub
  ·refine G.cq (v:=vy) λs3 e3=>?_
   subst e3
   refine bi ?_
   refine G.build jj [s3] rfl zd rfl λy2 a5=>bi ?_
   refine G.append (E:=jj) (v:=M) (xs:=l.map λz:rq×List (List co)=>z.1) (ys:=[s3]) (by simp;omega) (by simp[maxLen];omega) λu hu=>bi ?_
   rw[fm zo]
   have I:=N (i+1,l++[(s3,r.map (·.2))],u) ⟨by simp only[LE,gg];omega,by simp only;omega,λp F=>by
    rcases zar.1 F with q|q
    ·exact Y p q
    ·rw[zaf.1 q]
     refine⟨by simp;omega,by simp;omega,λp F=>?_⟩
     obtain⟨z,hz,rfl⟩:=zau.1 F
     exact Q z hz,hu⟩ (by simp only;omega)
   simp only[zal,zaj,zaL]at I
   refine N8 s3.v r (ps:=r.map (·.1)) (rs:=r.map (·.2)) rfl rfl ?_
   refine G.ap (As:=[xy w0 (s3,r.map (·.2)),ob (eQ (xy w0)) () l]) ?_
   rw[Fn,Fn,GT,<-pU]
   exact I.sub
 ·clear N h J
  obtain⟨rows,P⟩:∃rows,l.map (·.2)=rows:=⟨_,rfl⟩
  have a4:rows.length=l.length:=by grind
  have af:∀r∈rows,aht r:=λr A=>by
   rw[<-P]at A
   obtain⟨z,hz,rfl⟩:=zau.1 A
   exact Y z hz
  have aO:0<=g.start:=(Zg hs0.2.2.2.2.2.2.2.2.2.1).1
  refine ar ?_
  refine G.eo (σ:=cv) (λg=>ob (eQ (xy w0)) () l::sl jj M (l.map (·.1))::own x1 (cv.cells g)::L) (λg=>0<=g.start) (λg hg=>?_) (λJ N=>?_)
  rotate_left
  ·refine G.cond (λh=>?_) (λh=>?_)
   ·refine bi ?_
    refine kg zd zd zd zd (bi ?_)
    refine kg zd zd zd zd (bi ?_)
    refine kg zd zd zd zd ?_
    have nz:YB (9:Int):=⟨zd⟩
    refine bi ?_
    exact N { g with a0:=tf g.a0 30 90,start:=g.start.tmod 9,bP:=tf g.bP 0 30,fuel:=tf g.fuel 0 90 } (zbu 9 aO)
   ·exact(N g aO).sub
  refine bi ?_
  refine aaj M l (ps:=l.map (·.1)) (rs:=rows) rfl P ?_
  have bC:(rows.take 4).length=min 4 rows.length:=by simp
  refine HF (s:=g) (rows:=rows) zo (λr A=>⟨by have:=af r A;unfold aht at this;omega,λp F=>((af r A).2.2 p F).1⟩) aK λb=>?_
  obtain⟨R,hR⟩:∃R,Qz (rows.take 4)=R:=⟨_,rfl⟩
  have aD:(R=rows.take 4/\0<rows.length)\/(rows=[]/\R=[[]]):=by
   rw[<-hR]
   cases rows with
   |nil=>exact .inr ⟨rfl,rfl⟩
   |cons r l=>exact .inl ⟨rfl,zs⟩
  have Z:∀r∈R,r.length<=4/\∀p∈r,nI p/\∀k∈p,kY k.n:=λr A=>by
   rcases aD with⟨e,_⟩|⟨_,e⟩
   ·rw[e]at A
    exact(af r (zb7 A)).2
   ·rw[e]at A
    rw[zaf.1 A]
    exact⟨zd,λp F=>(by cases F)⟩
  have aV:R.length<=4:=by grind
  have aL:∀k d,R[k]? = some d->k<rows.length->rows[k]? = some d:=λk d h1 h2=>by
   rcases aD with⟨e,_⟩|⟨e,_⟩
   ·rw[e,zbh]at h1
    split at h1
    ·exact h1
    ·cases h1
   ·rw[e]at h2;cases h2
  rw[hR]
  have o:=TI.init (s:=g) aV hg λr A=>⟨by have:=(Z r A).1;omega,(Z r A).2⟩
  have V:(gy g R).au=0:=rfl
  generalize eS g R.length=S at o
  generalize gy g R=x at o V ⊢
  clear aD af Y hg hR
  generalize I:R.length=n at o aV
  revert o
  generalize(λc=>_:Int->Int)=h0
  intro o
  refine bi ?_
  refine G.sub (L':=ob oH b x::ob (HG w0) M rows::L) ?_
  refine G.a8 (σ:=Nat×eU) (λz=>i64 z.1) (λz=>ob oH b z.2::ob (HG w0) M rows::L) (λz=>z.1<=30/\z.2.au<=10*z.1/\TI S h0 n R z.2) (λz=>30-z.1) (0,x) rfl rfl ⟨zag _,by simp only[V];decide,o⟩ ?_
  clear o V x
  rintro⟨i,x⟩ ⟨hi,W,o⟩ J N
  simp only at hi W o N ⊢
  refine bx fz ?_
  refine G.cond (λh=>?_) (λh=>?_)
  ·simp only[GE,decide_eq_true_eq]at h
   have T:i<ps.length:=by omega
   have e:iW ps i ps[i]:=⟨dg T⟩
   have hq:=hr3 _ (zae T)
   generalize ps[i]=q at e hq
   obtain⟨qt,qd,qn⟩:=q
   obtain⟨d0,d1⟩:=ahA hq.2.2.2.1
   refine G.a8 (σ:=Nat×eU) (λz=>i64 z.1) (λz=>ob oH b z.2::ob (HG w0) M rows::L) (λz=>z.1<=10/\z.2.au<=10*i+z.1/\TI S h0 n R z.2) (λz=>10-z.1) (0,x) rfl rfl ⟨zag _,by simpa using W,o⟩ ?_
   clear o W x
   rintro⟨k,x⟩ ⟨hk,W,o⟩ J2 C
   simp only at hk W o C ⊢
   refine bi ?_
   refine YI (q:=⟨qt,qd,qn⟩) zd zd ?_
   obtain⟨w1,w2⟩:=LM (n:=qn) (show(0:Int)<=9 by decide)
   generalize tf qn 0 9=w at w1 w2 ⊢
   refine bi ?_
   refine G.cond (λh4=>?_) (λh4=>?_)
   ·have U:k<10:=by grind
    have D:∀x',TI S h0 n R x'->x'.au<=x.au+1->G w0 (ob oH b x'::ob (HG w0) M rows::L) (J2 (i64 (IntKind.wrap .i64 ((k:Int)+1)))):=λx' h1 h2=>by
     rw[fm zo]
     exact C (k+1,x') ⟨U,by simp only;omega,h1⟩ (by simp only;omega)
    obtain⟨LG,hL⟩:=o.lv
    have aH:=hL.mi.len
    refine bi ?_
    by_cases aB:0<=qt/\qt<n
    ·obtain⟨j,rfl⟩:=zaK aB.1
     have a6:j<x.ad.length:=by omega
     refine YX ht o (i:=j) (t:=x.ad[j]) (draw:=qd) zo (dg a6) d0 d1 λx' aP bD _=>?_
     obtain⟨bF,bd⟩:=aP.lv
     have aS:=bd.mi.len
     have H:=aB.1
     have aF:=aB.2
     refine bx (an @ge_iff_le.{0} (eq_true H)) ?_
     refine nP (x:=x') ?_
     rw[aS]
     refine bx (an @ge_iff_le.{0} (an (eq_true H) (eq_true aF))) ?_
     exact(D x' aP zo).sub
    ·refine abW (x:=x) zo ?_
     by_cases H:0<=qt
     ·have aF:¬qt<n:=by omega
      refine bx (an @ge_iff_le.{0} (eq_true H)) ?_
      refine nP (x:=x) ?_
      rw[aH]
      refine bx (an @ge_iff_le.{0} (an (eq_true H) aF)) ?_
      exact(D x o zo).sub
     ·refine bx (an @ge_iff_le.{0} H) ?_
      exact(D x o zo).sub
   ·refine bi ?_
    rw[fm zo]
    exact(N (i+1,x) ⟨zo,by simp only;omega,o⟩ (by simp only;omega)).sub
  clear N h J
  refine QY ht o (λr A=>(Z r A).1) zo λx o bc=>bi ?_
  refine G.aJ (HG w0) M ?_
  rw[FL]
  intro X aG
  have bA:X.length=rows.length:=by grind
  obtain⟨LG,hL⟩:=o.lv
  have aH:=hL.mi.len
  refine G.a8 (σ:=Nat) (λz=>i64 z) (λ_=>sl jj M (X.map (·.1))::ob (eQ (xy w0)) () X::ob oH b x::L) (λz=>z<=n) (λz=>n-z) 0 rfl rfl (zag _) ?_
  intro k hk J N
  have hk:k<=n:=hk
  refine bi ?_
  refine nP (x:=x) ?_
  rw[aH]
  by_cases c:k<n
  ·have c1:(k:Int)<n:=by omega
   refine bx (eq_true c1) ?_
   refine G.cond (λh=>?_) (λh=>?_)
   ·have bs:k<X.length:=by simpa using h
    obtain⟨q,hq⟩:∃q,X[k]? = some q:=⟨_,dg bs⟩
    have e1:iW (X.map (·.1)) k q.1:=⟨by rw[zax,hq];rfl⟩
    obtain⟨t,hi⟩:∃t,x.ad[k]? = some t:=⟨_,dg zo⟩
    obtain⟨d,am,bE,aA,aT⟩:=o.done bc hi
    have hq2:q.2=d:=by
     have h1:=aL k d am zo
     rw[<-aG,zax,hq]at h1
     exact Option.some.inj h1
    have bl:=Z d (Ok am)
    refine zg (x:=x) hi zo zo λu hu=>bi ?_
    refine G.aJ (eQ (xy w0)) () ?_
    rw[nH hq,BM]
    intro O aM
    have bB:O.length=d.length:=by grind
    have a7:(if((6:Int)<((O.map (·.1)).length:Int))then 6 else((O.map (·.1)).length:Int))=d.length:=by grind
    have c6:¬(d.length:Int)<t.aX.length:=by omega
    refine bx (an a7 (an @gt_iff_lt.{0} c6)) ?_
    refine Nx (x:=x) hi zo ?_
    have aE:(decide ((t.aX.length:Int)=d.length))=decide (t.B=6):=decide_eq_decide.2 ⟨λg=>aA.1 zo,λg=>by have:=aA.2 g;omega⟩
    rw[aE]
    refine bx @zbj ?_
    rw[jc]
    refine G.a8 (σ:=Nat) (λz=>i64 z) (λ_=>ob (eQ (wP w0)) () O::sl jj q.1.v (O.map (·.1))::ob (eQ (xy w0)) () (X.eraseIdx k)::sl lQ u t.aX::sl jj M (X.map (·.1))::ob oH b x::L) (λz=>z<=t.aX.length) (λz=>t.aX.length-z) 0 rfl rfl (zag _) ?_
    intro m hm J2 C
    have hm:m<=t.aX.length:=hm
    refine bi ?_
    refine G.cond (λh2=>?_) (λh2=>?_)
    ·have aN:m<t.aX.length:=by grind
     obtain⟨r,A⟩:∃r,t.aX[m]? = some r:=⟨_,dg aN⟩
     obtain⟨p,F,aC,U⟩:=aT m r A
     have er:iW t.aX m r:=⟨A⟩
     obtain⟨q3,aI⟩:∃q3,O[m]? = some q3:=⟨_,dg zo⟩
     have e3:iW (O.map (·.1)) m q3.1:=⟨by rw[zax,aI];rfl⟩
     have aW:q3.2=p:=by
      have al:=F
      rw[<-hq2,<-aM,zax,aI]at al
      exact Option.some.inj al
     have aU:=(bl.2 p (Ok F)).1
     unfold nI at aU
     refine bi ?_
     refine Re (r:=Y1 aI) bj (by rw[aW];exact aU) λa u1 u2=>?_
     rw[aW]
     have I:G w0 (ob (eQ (wP w0)) () O::sl jj q.1.v (O.map (·.1))::ob (eQ (xy w0)) () (X.eraseIdx k)::sl lQ u t.aX::sl jj M (X.map (·.1))::ob oH b x::L) (J2 (i64 (IntKind.wrap .i64 ((m:Int)+1)))):=by
      rw[fm zo]
      exact C (m+1) aN zo
     generalize pb p=ch at U
     obtain⟨kd,er,rs,rt⟩:=r
     simp only at aC U
     by_cases c0:ch=0
     ·rcases aC with g|⟨g,g2⟩
      ·subst g
       refine bx (eq_true c0) ?_
       exact I
      ·subst g
       refine bx (an (eq_true c0) g2) ?_
       exact I
     ·have g3:=U c0
      subst g3
      rcases aC with g|⟨g,g2⟩
      ·subst g
       refine bx c0 ?_
       exact I
      ·subst g
       refine bx c0 ?_
       exact I
    ·refine bi ?_
     rw[fm zo]
     have I:=N (k+1) zo zo
     refine N8 q.1.v O (ps:=O.map (·.1)) (rs:=q.2) rfl aM ?_
     refine aai hq ?_
     exact I.sub
   ·refine bi ?_
    exact hK.sub
  ·have c1:¬(k:Int)<n:=by omega
   refine bx c1 ?_
   exact hK.sub
end
end Go.Proofs.YtoealglbimbbmaaGreatDoor.S
