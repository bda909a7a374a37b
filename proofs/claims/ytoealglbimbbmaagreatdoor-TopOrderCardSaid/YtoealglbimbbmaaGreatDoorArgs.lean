import Derived.Test.YtoealglbimbbmaaGreatDoorData
import Derived.ChangeSame
namespace Go.Proofs.YtoealglbimbbmaaGreatDoor.S
open Go Go.Proofs Go.ChangeShapes Go.WideShapes Go.ChangeAt Go.RowKit
set_option linter.unusedVariables false
set_option linter.unusedSimpArgs false
theorem G.run {w:World}{F:World→Prop}(h:G (bh.of w) [] F):F w:=h w ⟨fun _=>none,fun _=>rfl,jc.refl _ _,fun b cs e=>(by cases e),fun b o e=>(by cases e),Nat.zero_le _⟩
section
variable {H:Type}{enc:TypeId×Value→H}{P:Program}{w:World}{base:Nat}{spare:Nat→Bool}{heldB:Bool}
theorem Qu {α:Type}(E:jS α){r:Reach}{b0:Nat}{t e:TypeId}{k:Nat}{ks:List CK}{v:Value}{d:DataW H}{ps:List MemPlace}(ht:P.underlying t=some (.slice e))(hk:kinds P k e=some ks)(hc:P.cellsOf e=ks.length)
  (h0:0<ks.length) (hE:∀cs,good ks cs→∃a,E.enc a=cs) (hs:ks.length=E.sz) (hval:Value.okWide P w r b0 t v) (h:DataW.Trod enc P w base spare heldB t v d ps):∃xs:List α,Av (bh.of w) v E xs∧(∀x∈xs,good ks (E.enc x))∧(xs.length=0∨∃el sp,d=.slice el sp∧el.length=xs.length):=by
 obtain⟨a,len,cap,rfl⟩:=okWide_slice ht hval
 obtain⟨fuel,hf⟩:=h
 obtain⟨v,n,hv,hr,hsz⟩:=nQ ht hc h0 (fun m cs' y h=>ua k e ks m cs' y hk h) hf
 obtain rfl:Value.slice a len cap=v:=by simpa [Value.cells] using hv
 rw [hs] at hr
 obtain⟨xs,h1,h2,h3⟩:=pT E (fun a=>good ks (E.enc a)) (fun cs hc=>(hE cs hc).elim fun a ha=>⟨a,ha,by rw [ha];exact hc⟩) hr
 exact⟨xs,h1,h2,by rw [h3];exact hsz⟩
def Sx (P:Program)(t:TypeId):Bool:=match P.underlying t with | some (.struct _)=>true | _=>false
theorem P3 {α:Type}(E:jS α){r:Reach}{b0:Nat}{t:TypeId}{k:Nat}{ks:List CK}{v:Value}{d:DataW H}{ps:List MemPlace}(hb:Sx P t=true)(hk:kinds P k t=some ks)
  (hE:∀cs,good ks cs→∃a,E.enc a=cs) (hval:Value.okWide P w r b0 t v) (h:DataW.Trod enc P w base spare heldB t v d ps):∃a:α,v=.agg (E.enc a).toArray∧good ks (E.enc a):=by
 obtain⟨fs,ht⟩:∃fs,P.underlying t=some (.struct fs):=by
  unfold Sx at hb
  split at hb
  ·rename_i fs h;exact⟨fs,h⟩
  ·cases hb
 obtain⟨cs,rfl,_⟩:=okWide_struct ht hval
 obtain⟨fuel,hf⟩:=h
 have hg:good ks cs.toList:=ua k t ks fuel _ _ hk hf
 obtain⟨a,ha⟩:=hE _ hg
 exact⟨a,by rw [ha],by rw [ha];exact hg⟩
theorem Qn {f:Func}{s:ChangeSpec}{apart fresh handsOn again:Bool}{W W':World}{args:Array Value}{v:Value}{ds gs:List (DataW H)}{before pa pv:List MemPlace}
  (hW:DataW.Whole enc P f.params.toList s.vars apart W args.toList ds gs before) (hs:jc [] W W')
  (hres:∀(b:Nat) (sp:Nat→Bool) (hd:Bool),DataW.TrodAll enc P W' b sp hd f.resultTypes.toList (v.resultList f.resultTypes.size) (s.fn H (ds++gs)).results [])
  (hargs:∀sp:Nat→Bool,(∀p∈before,sp p.block=true)→DataW.TrodAll enc P W' 0 sp true f.params.toList args.toList (s.fn H (ds++gs)).args pa)
  (hvars:∀sp:Nat→Bool,(∀p∈before,sp p.block=true)→DataW.TrodVars enc P W' sp s.vars (s.fn H (ds++gs)).vars pv)
  (hps:before=pa++pv)
  (hok:∀(j:Nat) (t:TypeId) (r:Value),f.resultTypes[j]? = some t→(v.resultList f.resultTypes.size)[j]? = some r→Value.okWide P W' .any 0 t r) :
  s.post enc P f apart fresh handsOn again W args v W':=by
 have hlt:=hW.lt
 have old:∀p∈before,decide (p.block<W.heap.size)=true:=fun p hp=>by simpa using hlt p hp
 refine⟨ds,gs,before,[],pa,pv,hW,hres _ _ _,hargs (fun b=>decide (b<W.heap.size)) old,hvars (fun b=>decide (b<W.heap.size)) old,World.keptBut_mono (fun p f=>f.elim) hs.kept,fun _=>?_⟩
 obtain⟨_,_,_,_,_,hz,hn⟩:=hW
 subst hps
 refine⟨hok,_,_,([]++pa)++pv,⟨[]++pa,pv,trodAll_append (hargs _ (fun _ _=>rfl)) (hres _ _ _),hvars _ (fun _ _=>rfl),rfl,fun b off hp=>?_,fun ha=>by simpa using hn ha⟩,fun p hp _=>by simpa using hp⟩
 have hp2:=hp
 simp only [List.nil_append] at hp2
 rw [hs.frozen (hlt _ hp2)]
 exact hz b off hp2
end
end Go.Proofs.YtoealglbimbbmaaGreatDoor.S
