import Derived.Test.YtoealglbimbbmaaGreatDoorBook
namespace Go.Proofs.YtoealglbimbbmaaGreatDoor.S
open Go Go.Proofs
set_option linter.unusedVariables false
set_option linter.unusedSimpArgs false
def zv (l:cw):Bool:=if l.held then decide (l.version<4611686018427387904) && (decide (0≤l.owner) && decide (l.owner<4)) else decide (l.version<4611686018427387904) && decide (l.owner=0)
def ah:cw:=⟨0,false,0⟩
def jG (i:Int)(n:Nat):Bool:=decide (0≤i) && decide (i<n)
theorem Et {i:Int}{n:Nat}(h:jG i n=true):∃k:Nat,i=k∧k<n:=by
 simp [jG] at h
 exact⟨i.toNat,by omega,by omega⟩
def fc (a n wide:Int):Int:=if a<0 then -1 else (IntKind.wrap .i64 (a.tdiv (held wide 1 16))).tmod (held n 1 16)
def nK (ls:List cw)(i:Int):cw×Int:=if jG i ls.length then (ls.getD i.toNat ah,0) else (ah,2)
def kQ (ls:List cw)(i:Int)(l:cw):Int:=if jG i ls.length then (if zv l then 0 else 1) else 2
def lH (ls:List cw)(i:Int)(was l:cw):List cw×Bool×Int :=
 if kQ ls i l=0 then (if ls.getD i.toNat ah=was then (ls.set i.toNat l,true,0) else (ls,false,0)) else (ls,false,kQ ls i l)
def jq (ls:List cw)(i:Int)(l:cw):List cw×Int:=if kQ ls i l=0 then (ls.set i.toNat l,0) else (ls,kQ ls i l)
theorem Dv {ls:List cw}{i:Int}{l:cw}(h:kQ ls i l=0):∃k:Nat,i=k∧k<ls.length∧zv l=true:=by
 unfold kQ at h
 split at h
 ·rename_i h1
  obtain⟨k,rfl,hk⟩:=Et h1
  split at h
  ·exact⟨k,rfl,hk,by assumption⟩
  ·omega
 ·omega
def nk (b:Nat)(s:List cw×Int):ay:=m3 fun v=>bk (ic (ar v [v])) (bk (own b [v,i64 s.2]) (sl lN v s.1))
def TW (ls:List cw)(o:Int)(k:Nat):List Int:=((List.range k).filter fun i=>(ls.getD i ah).held && decide ((ls.getD i ah).owner=o)).map fun i:Nat=>(i:Int)
theorem Hm {ls:List cw}{k:Nat}(h:k<ls.length):ls.getD k ah=ls[k]:=by simp [h]
section
variable {w0:bh}{L M:List ay}{K:KV}{F:World→Prop}{C:ay→List ay}{b:Nat}{ls:List cw}{wide:Int}
theorem gA:G w0 (ob nk b (ls,wide)::M) F=∀v,ar v [v]→G w0 (own b [v,i64 wide]::sl lN v ls::M) F:=by
 rw [eZ,nk]
 simp only [qr,fb,fU]
theorem Ke {o:Int}(hK:G w0 L (K (.bool (decide (0≤o) && decide (o<4))))):G w0 L (CP Tryz.prog Fn.lock_owns [i64 o] K):=by
 refine Kk ?_
 unfold Du
 refine gu ?_
 refine gr ?_
 exact hK
theorem Og {v o:Int}{h:Bool}(hK:G w0 L (K (.bool (zv ⟨v,h,o⟩)))):G w0 L (CP Tryz.prog Fn.lock_Is [.agg #[u64 v,.bool h,i64 o]] K):=by
 refine Ox ?_
 unfold HH
 refine gu ?_
 refine G.box fun p=>?_
 refine gr ?_
 cases h
 ·refine gr ?_
  refine G.all (decide (o=0)) (fun _ K hK=>by refine gr ?_;exact hK) ?_
  exact hK.sub
 ·refine gr ?_
  refine G.all (decide (0≤o) && decide (o<4)) (fun _ K hK=>?_) ?_
  ·refine gr ?_
   exact Ke hK
  ·exact hK.sub
theorem Ot {n:Int}:(if (if (16:Int)<n then (16:Int) else n) > 1 then (if (16:Int)<n then (16:Int) else n) else 1)=held n 1 16:=by
 unfold held;split <;> split <;> (try split) <;> (try split) <;> omega
theorem kA {n:Int}(hK:G w0 L (K (i64 (held n 1 16)))):G w0 L (CP Tryz.prog Fn.stripe_near [i64 n,i64 16] K):=by
 refine Gk ?_
 unfold yY
 refine gr ?_
 rw [Ot]
 exact hK
theorem M9 (n:Int):iG (held n 1 16):=⟨by have:=ft (n:=n) (show (1:Int)≤16 by omega);omega⟩
theorem Dg {a n wd:Int}(hK:G w0 L (K (i64 (fc a n wd)))):G w0 L (CP Tryz.prog Fn.stripe_Of [i64 a,i64 n,i64 wd] K):=by
 refine KD ?_
 unfold Dp
 unfold fc at hK
 have n1:=M9 wd
 have n2:=M9 n
 refine gr ?_
 refine G.cond (fun h=>?_) (fun h=>?_)
 ·rw [if_pos (by simpa using h)] at hK
  exact hK
 ·rw [if_neg (by simpa using h)] at hK
  refine G.drew ?_
  refine kA ?_
  refine gr ?_
  refine kA ?_
  refine gr ?_
  exact hK
theorem Jc {n wd:Int}(hK:∀b,G w0 (ob nk b (List.replicate (held n 1 16).toNat ah,held wd 1 16)::L) (K (ptr b 0))):G w0 L (CP Tryz.prog Fn.stripe_New [i64 n,i64 wd] K):=by
 refine H7 ?_
 unfold AZ
 have hb:=ft (n:=n) (show (1:Int)≤16 by omega)
 have eh:i64 (held n 1 16)=i64 ((held n 1 16).toNat:Nat):=by rw [Int.toNat_of_nonneg (by omega)]
 refine G.drew ?_
 refine kA ?_
 refine eY eh ?_
 refine⟨?_,?_⟩
 ·refine G.make lN ah rfl (by simp only [maxLen];omega) (by omega) fun v hv=>?_
  refine gr ?_
  refine kA ?_
  refine gr ?_
  refine G.box fun b=>?_
  refine gr ?_
  have:=hK b
  rw [gA] at this
  exact this v hv
 ·refine kA ?_
  refine gr ?_
  refine G.make lN ah rfl (by simp only [maxLen];omega) (by omega) fun v hv=>?_
  refine gr ?_
  refine G.box fun b=>?_
  refine gr ?_
  have:=hK b
  rw [gA] at this
  exact this v hv
theorem rI {n:Int}[i:aq L nk b (ls,wide) C](hK:G w0 L (K (.bool (jG n ls.length)))):G w0 L (CP Tryz.prog Fn.stripe_Table_is [ptr b 0,i64 n] K):=by
 refine i.ro (fun M hK=>?_) hK
 rw [gA] at *
 intro v hv
 refine BB ?_
 unfold rz
 refine gu ?_
 refine gr ?_
 refine G.all (decide (n<ls.length)) (fun _ K hK=>by refine gr ?_;exact hK) ?_
 exact hK v hv
theorem ye {n:Int}[i:aq L nk b (ls,wide) C](hK:G w0 L (K (.tuple #[.agg #[u64 (nK ls n).1.version,.bool (nK ls n).1.held,i64 (nK ls n).1.owner],i64 (nK ls n).2]))):G w0 L (CP Tryz.prog Fn.stripe_Table_Load [ptr b 0,i64 n] K):=by
 refine i.ro (fun M hK=>?_) hK
 refine yf ?_
 unfold pu
 refine G.new fun p=>?_
 refine rI (ls:=ls) ?_
 unfold nK at hK
 cases hn:jG n ls.length
 ·rw [hn] at hK
  refine gr ?_
  exact hK.sub
 ·rw [hn] at hK
  obtain⟨k,rfl,hk⟩:=Et hn
  simp only [if_true,Int.toNat_natCast,Hm hk] at hK
  rw [gA] at hK
  refine gr ?_
  rw [fA,gA]
  intro v hv
  have e:=ct hk
  refine gr ?_
  exact(hK v hv).sub
theorem qP {n v o:Int}{h:Bool}[i:aq L nk b (ls,wide) C](hK:G w0 L (K (i64 (kQ ls n ⟨v,h,o⟩)))):G w0 L (CP Tryz.prog Fn.stripe_Table_may [ptr b 0,i64 n,.agg #[u64 v,.bool h,i64 o]] K):=by
 refine i.ro (fun M hK=>?_) hK
 refine z7 ?_
 unfold qV
 refine G.box fun p=>?_
 refine rI (ls:=ls) ?_
 unfold kQ at hK
 cases hn:jG n ls.length
 ·rw [hn] at hK
  refine gr ?_
  exact hK.sub
 ·rw [hn] at hK
  refine gr ?_
  refine Og ?_
  cases hl:zv ⟨v,h,o⟩
  ·rw [hl] at hK
   refine gr ?_
   exact hK.sub
  ·rw [hl] at hK
   refine gr ?_
   exact hK.sub
theorem zu {n v o v2 o2:Int}{h h2:Bool}[i:aq L nk b (ls,wide) C]
  (hK:G w0 (C (ob nk b ((lH ls n ⟨v,h,o⟩ ⟨v2,h2,o2⟩).1,wide))) (K (.tuple #[.bool (lH ls n ⟨v,h,o⟩ ⟨v2,h2,o2⟩).2.1,i64 (lH ls n ⟨v,h,o⟩ ⟨v2,h2,o2⟩).2.2]))) :
  G w0 L (CP Tryz.prog Fn.stripe_Table_Cas [ptr b 0,i64 n,.agg #[u64 v,.bool h,i64 o],.agg #[u64 v2,.bool h2,i64 o2]] K):=by
 refine i.use (fun M hK=>?_) hK
 refine zN ?_
 unfold qd
 refine G.box fun p=>?_
 refine G.box fun p2=>?_
 refine gr ?_
 refine qP (ls:=ls) ?_
 unfold lH at hK
 by_cases hm:kQ ls n ⟨v2,h2,o2⟩=0
 ·obtain⟨k,rfl,hk,_⟩:=Dv hm
  simp only [hm,if_true,Int.toNat_natCast,Hm hk] at hK
  refine eY hm ?_
  rw [E5,gA]
  intro u hu
  have e:=ct hk
  refine G.drew ?_
  simp only [↓RG,RP,RB,BEq.rfl,Int.reduceEq,Int.reduceLT,Int.reduceLE,Nat.reduceEqDiff,cw.eqb ls[k] ⟨v,h,o⟩]
  by_cases he:ls[k]=⟨v,h,o⟩
  ·simp only [he,if_true] at hK
   rw [gA] at hK
   refine eY he ?_
   refine G.drew ?_
   refine gr ?_
   exact(hK u hu).sub
  ·simp only [he,if_false] at hK
   rw [gA] at hK
   refine eY he ?_
   exact(hK u hu).sub
 ·simp only [hm,if_false] at hK
  refine eY hm ?_
  exact hK.sub
theorem w6 {n v o:Int}{h:Bool}[i:aq L nk b (ls,wide) C]
  (hK:G w0 (C (ob nk b ((jq ls n ⟨v,h,o⟩).1,wide))) (K (i64 (jq ls n ⟨v,h,o⟩).2))) :
  G w0 L (CP Tryz.prog Fn.stripe_Table_Store [ptr b 0,i64 n,.agg #[u64 v,.bool h,i64 o]] K):=by
 refine i.use (fun M hK=>?_) hK
 refine xd ?_
 unfold oy
 refine G.box fun p=>?_
 refine gr ?_
 refine qP (ls:=ls) ?_
 unfold jq at hK
 refine gr ?_
 refine G.joini0 ?_
 by_cases hm:kQ ls n ⟨v,h,o⟩=0
 ·obtain⟨k,rfl,hk,_⟩:=Dv hm
  simp only [hm,if_true,Int.toNat_natCast] at hK
  rw [gA] at hK
  refine eY hm ?_
  rw [fA,gA]
  intro u hu
  have e:=ct hk
  refine G.drew ?_
  refine gr ?_
  exact(hK u hu).sub
 ·simp only [hm,if_false] at hK
  refine eY hm ?_
  exact hK.sub
end
end Go.Proofs.YtoealglbimbbmaaGreatDoor.S
