/- Contracts of the walk, part 34. -/
import Derived.Test.YtmiknfneeipkeaaGreatS33
import Derived.Test.YtmiknfneeipkeaaGreatS28
open Go.Lib renaming hid → kh
namespace Go.Proofs.YtmiknfneeipkeaaGreat
open Go.RowKit Go.MapKept Go.ChangeMaps Go.Shelf Go.Sort
theorem take_from (pre s:List UInt8) (x:Nat) (hx:x<18446744073709551616) {bs:List UInt8} {k:Nat} (hb:bs=pre++(putU x++s)) (hk:k=pre.length):takeU 0 0 (bs.drop k)=some (x,(putU x).length):=by
 subst hb hk;rw [List.drop_left];exact take_put0 x hx s
theorem numD_put (pre s:List UInt8) (x most:Nat) (hx:x<18446744073709551616) (hm:x<=most) {bs:List UInt8} {k:Nat} (hb:bs=pre++(putU x++s)) (hk:k=pre.length):numD bs k false most=(x,k+(putU x).length,false):=by
 unfold numD;rw [if_neg (by simp),take_from pre s x hx hb hk];simp only;rw [if_neg (by omega)]
def idB (i:ID):List UInt8:=putU i.2.toNat++putU i.1.toNat
def okI (i:ID):Prop:=0<=i.2/\i.2<=8192/\0<=i.1/\i.1<2305843009213693951
theorem stepD_put (pre s:List UInt8) (i:ID) (h:okI i) {bs:List UInt8} {k:Nat} (acc:List ID) (hb:bs=pre++(idB i++s)) (hk:k=pre.length):stepD bs (acc,k,false)=(acc++[i],k+(idB i).length,false):=by
 obtain ⟨h1,h2,h3,h4⟩:=h;have e1:=numD_put pre (putU i.1.toNat++s) i.2.toNat 8192 (by omega) (by omega) (bs:=bs) (k:=k) (by rw [hb,idB,List.append_assoc]) hk;have e2:=numD_put (pre++putU i.2.toNat) s i.1.toNat 2305843009213693951 (by omega) (by omega) (bs:=bs) (k:=k+(putU i.2.toNat).length) (by rw [hb,idB];simp only [List.append_assoc]) (by rw [hk,List.length_append]);unfold stepD;rw [if_neg (by simp)];simp only [e1,e2];rw [if_neg (by simp)]
 have e3:(((i.1.toNat:Nat):Int),((i.2.toNat:Nat):Int))=i:=by
  obtain ⟨a,c⟩:=i;simp only at *; rw [Int.toNat_of_nonneg h3,Int.toNat_of_nonneg h1]
 rw [e3,idB,List.length_append,Nat.add_assoc]
theorem idsD_put (pre s:List UInt8) (ids:List ID) (h:∀ i∈ids,okI i) {bs:List UInt8} (hb:bs=pre++(ids.flatMap idB++s)) {k:Nat} (hk:k=pre.length):∀ n,n<=ids.length->idsD bs ([],k,false) n=(ids.take n,k+((ids.take n).flatMap idB).length,false):=by
 intro n;induction n with
 | zero=>intro _;simp [idsD]
 | succ n ih=>
  intro hn;have hlt:n<ids.length:=by omega
  have e1:ids.take (n+1)=ids.take n++[ids[n]]:=by rw [List.take_succ_eq_append_getElem hlt]
  rw [idsD,ih (by omega)];rw [stepD_put (pre++(ids.take n).flatMap idB) ((ids.drop (n+1)).flatMap idB++s) ids[n] (h _ (List.getElem_mem hlt)) _ ?_ (by rw [hk,List.length_append])]
  · rw [e1,List.flatMap_append,List.length_append,List.flatMap_singleton,Nat.add_assoc]
  have e2:ids=ids.take n++(ids[n]::ids.drop (n+1)):=by rw [<- List.drop_eq_getElem_cons hlt,List.take_append_drop]
  have e3:ids.flatMap idB=(ids.take n).flatMap idB++(idB ids[n]++(ids.drop (n+1)).flatMap idB):=by
   conv=>lhs;rw [e2]
   rw [List.flatMap_append,List.flatMap_cons]
  rw [hb,e3];simp only [List.append_assoc]
theorem manB_eq (m:Man):manB m=putU m.size.toNat++(putU m.ids.length++m.ids.flatMap idB):=by
 have key:∀ l:List ID,(l.flatMap (fun i=>[i.2,i.1])).flatMap (fun n:Int=>putU n.toNat)=l.flatMap idB:=fun l=>by
  induction l with
  | nil=>rfl
  | cons a l ih=>
   rw [List.flatMap_cons,List.flatMap_append,ih,List.flatMap_cons];simp [idB]
 rw [manB,numsM,List.flatMap_append,key];simp
theorem okI_of {m:Man} (h:ManOk m):∀ i∈m.ids,okI i:=fun i hi=>by
 have h1:=List.all_eq_true.1 (manE_zero h.1).1 i hi;have h2:=chunkB_sound h1;have h3:0<=i.1:=okID_pos (i1:=i.1) (i2:=i.2) (h.2 i hi);simp only [chunkB,validB,Bool.and_eq_true,decide_eq_true_eq] at h1;exact ⟨by omega,by omega,h3,by omega⟩
theorem man_size {m:Man} (h:ManOk m):0<=m.size/\m.size<=1048576:=by
 have hv:=manE_zero h.1;have h1:=sum_take_bd (l:=m.ids) (k:=m.ids.length) (by rw [List.take_length];exact hv.1);rw [List.take_length] at h1;exact ⟨by rw [hv.2.1];exact h1.1,hv.2.2⟩
theorem decM_put {m:Man} (h:ManOk m):decM (manB m)=some m:=by
 have hs:=man_size h;have hl:=manE_len h.1;have e0:=manB_eq m
 have e1:headD (manB m)=(m.size.toNat,(putU m.size.toNat).length,false):=by
  have:=numD_put [] (putU m.ids.length++m.ids.flatMap idB) m.size.toNat 1048576 (by omega) (by omega) (bs:=manB m) (k:=0) (by rw [e0];rfl) rfl;rw [headD,this,Nat.zero_add]
 have e2:cntD (manB m)=(m.ids.length,(putU m.size.toNat).length+(putU m.ids.length).length,false):=by
  have:=numD_put (putU m.size.toNat) (m.ids.flatMap idB) m.ids.length 1024 (by omega) (by omega) (bs:=manB m) (k:=(putU m.size.toNat).length) e0 rfl;rw [cntD,e1];exact this
 have e3:allD (manB m)=(m.ids,(manB m).length,false):=by
  have:=idsD_put (putU m.size.toNat++putU m.ids.length) [] m.ids (okI_of h) (bs:=manB m) (by rw [e0,List.append_nil,List.append_assoc]) (k:=(putU m.size.toNat).length+(putU m.ids.length).length) (by rw [List.length_append]) m.ids.length (Nat.le_refl _);rw [allD,e2];simp only;rw [this,List.take_length];congr 2
  rw [e0];simp only [List.length_append];omega
 have e4:(⟨((m.size.toNat:Nat):Int),m.ids⟩:Man)=m:=by
  obtain ⟨z,ids⟩:=m;simp only at *; rw [Int.toNat_of_nonneg hs.1]
 unfold decM;rw [e3,e1];simp only;rw [e4,if_neg];rintro (h1 | h1 | h1)
 · cases h1
 · exact h1 rfl
 exact h1 h.1
theorem oneM_put {m:Man} (h:ManOk m) (s:List UInt8):oneM (partB m++s)=some (m,(partB m).length):=by
 have hl:=manB_len h.1 h.2;have e1:partB m++s=putU (manB m).length++(manB m++s):=by rw [partB,List.append_assoc]
 unfold oneM;rw [e1,take_put0 _ (by omega)];simp only;rw [List.drop_left,if_neg (by rw [List.length_append];omega),List.take_left,decM_put h];simp [partB]
theorem mansL_put {s:List UInt8}:∀ (ys:List Man) (pre bs:List UInt8) (k:Nat),(∀ m∈ys,ManOk m)->bs=pre++(ys.flatMap partB++s)->k=pre.length->mansL bs ys.length k=some (ys,k+(ys.flatMap partB).length):=by
 intro ys;induction ys with
 | nil=>intro pre bs k _ _ _;simp [mansL]
 | cons m ys ih=>
  intro pre bs k h hb hk;have e1:bs.drop k=partB m++(ys.flatMap partB++s):=by rw [hb,hk,List.drop_left,List.flatMap_cons,List.append_assoc]
  rw [List.length_cons,mansL,e1,oneM_put (h m (.head _))];simp only;rw [ih (pre++partB m) bs (k+(partB m).length) (fun x hx=>h x (.tail _ hx)) (by rw [hb,List.flatMap_cons];simp only [List.append_assoc]) (by rw [hk,List.length_append])];simp [Nat.add_assoc]
theorem rdMans_put (ys:List Man) (s:List UInt8) (h:∀ m∈ys,ManOk m) (hn:ys.length<18446744073709551616):rdMans (volH ys.length ys++s)=some (ys,(volH ys.length ys).length):=by
 have e1:volH ys.length ys++s=[83,89,65,82]++(putU ys.length++(ys.flatMap partB++s)):=by rw [volH];simp only [List.append_assoc]
 unfold rdMans;rw [if_pos (by rw [e1];exact List.prefix_append _ _),take_from [83,89,65,82] (ys.flatMap partB++s) ys.length hn (k:=4) e1 rfl];simp only;rw [mansL_put (s:=s) ys ([83,89,65,82]++putU ys.length) _ _ h (by rw [e1];simp only [List.append_assoc]) (by simp;omega)];congr 2
 rw [volH];simp only [List.length_append,List.length_cons,List.length_nil]
theorem opnV_put (ys:List Man) (X:List UInt8) (h:∀ m∈ys,ManOk m) (hn:ys.length<18446744073709551616):opnV (volH ys.length ys++X)=(decP X).map (fun cs=>(ys,cs)):=by
 unfold opnV;rw [rdMans_put ys X h hn];simp only;rw [List.drop_left]
theorem frP_gen (pre cs s:List UInt8) (sz sm:Nat) (last:Option ID) (hc:cs.length=sz) (h1:1<=sz) (h2:sz<=8192) (h3:sm<18446744073709551616) {bs:List UInt8} {k:Nat} (hb:bs=pre++(putU sz++(putU sm++(cs++s)))) (hk:k=pre.length):
 frP bs k last=if fpOf cs≠((sm:Int),(sz:Int)) then none else if last.any (fun x=>decide (0<=cmpID x ((sm:Int),(sz:Int))))=true then none else some (((((sm:Int),(sz:Int)):ID),cs),k+(putU sz).length+(putU sm).length+sz):=by
 have e1:=take_from pre _ sz (by omega) hb hk;have e2:=take_from (pre++putU sz) (cs++s) sm h3 (bs:=bs) (k:=k+(putU sz).length) (by rw [hb];simp only [List.append_assoc]) (by rw [hk,List.length_append])
 have e3:bs.drop (k+(putU sz).length+(putU sm).length)=cs++s:=by
  have:bs=(pre++putU sz++putU sm)++(cs++s):=by rw [hb];simp only [List.append_assoc]
  rw [this,show k+(putU sz).length+(putU sm).length=(pre++putU sz++putU sm).length by rw [hk,List.length_append,List.length_append],List.drop_left]
 have e4:(cs++s).take sz=cs:=by rw [<- hc,List.take_left]
 have e5:bs.length=k+(putU sz).length+(putU sm).length+sz+s.length:=by
  rw [hb,hk];simp only [List.length_append];omega
 unfold frP;rw [e1];simp only;rw [e2];simp only;rw [if_neg (by omega),e3,e4]
theorem okCH_id {e:CH} (h:okCH e=true):(((fpSum e.2.bs:Nat):Int),((e.2.bs.length:Nat):Int))=e.1/\1<=e.2.bs.length/\e.2.bs.length<=8192:=by
 obtain ⟨⟨i1,i2⟩,e⟩:=e;obtain ⟨h1,h2,h3,h4⟩:=okCH_eq h;exact ⟨by rw [h1,h2],h3,h4⟩
theorem getD_from (pre s:List UInt8) (x:UInt8):(pre++x::s).getD pre.length 0=x:=by simp [List.getD_eq_getElem?_getD]
theorem sum_small (bs:List UInt8):fpSum bs<18446744073709551616:=Nat.lt_trans (fpSum_lt bs) (by decide)
theorem last_any {acc:List PC} {c:PC} (h:AscI ((acc++[c]).map (·.1))):(acc.getLast?.map (·.1)).any (fun x=>decide (0<=cmpID x c.1))=false:=by
 rcases List.eq_nil_or_concat acc with rfl | ⟨l,a,rfl⟩
 · rfl
 rw [List.concat_eq_append] at h |-; rw [List.getLast?_append,List.getLast?_singleton];have h1:=(List.pairwise_append.1 (by simpa only [List.map_append] using h)).2.2 a.1 (by simp) c.1 (by simp);have h2:=cmpID_lt h1;simp only [Option.some_or,Option.map_some,Option.any_some,decide_eq_false_iff_not];omega
theorem frsP_put {s bs:List UInt8}:∀ (T:List CH) (pre:List UInt8) (k f:Nat) (acc:List PC),(∀ e∈T,okCH e=true)->AscI ((acc++pcs T).map (·.1))->T.length<=f->bs=pre++(T.flatMap frameP++s)->k=pre.length->frsP bs f k acc=frsP bs (f-T.length) (k+(T.flatMap frameP).length) (acc++pcs T):=by
 intro T;induction T with
 | nil=>intro pre k f acc _ _ _ _ _;simp [pcs]
 | cons e T ih=>
  intro pre k f acc hok ha hf hb hk;obtain ⟨hid,hl1,hl2⟩:=okCH_id (hok e (.head _));have hpc:pcs (e::T)=(e.1,e.2.bs)::pcs T:=rfl
  have ha1:AscI ((acc++[((e.1,e.2.bs):PC)]).map (·.1)):=by
   rw [hpc,show acc++(e.1,e.2.bs)::pcs T=(acc++[((e.1,e.2.bs):PC)])++pcs T by simp,List.map_append] at ha;exact (List.pairwise_append.1 ha).1
  have hlast:=last_any ha1;rw [List.length_cons] at hf;obtain ⟨f,rfl⟩:∃ f',f=f'+1:=⟨f-1,by omega⟩
  have eb:bs=pre++((1:UInt8)::(putU e.2.bs.length++(putU (fpSum e.2.bs)++(e.2.bs++(T.flatMap frameP++s))))):=by
   rw [hb,List.flatMap_cons,frameP];simp
  have eb1:bs=(pre++[(1:UInt8)])++(putU e.2.bs.length++(putU (fpSum e.2.bs)++(e.2.bs++(T.flatMap frameP++s)))):=by
   rw [eb];simp
  have e1:=frP_gen (pre++[(1:UInt8)]) e.2.bs (T.flatMap frameP++s) e.2.bs.length (fpSum e.2.bs) (acc.getLast?.map (·.1)) rfl hl1 hl2 (sum_small _) eb1 (k:=k+1) (by rw [hk,List.length_append];rfl);rw [hid,if_neg (by simp only [ne_eq,Decidable.not_not];exact hid),if_neg (by rw [hlast];simp)] at e1;have eg:bs.getD k 0=1:=by rw [eb,hk];exact getD_from _ _ _
  have efl:(frameP e).length=1+(putU e.2.bs.length).length+(putU (fpSum e.2.bs)).length+e.2.bs.length:=by
   rw [frameP];simp only [List.length_append,List.length_cons,List.length_nil]
  rw [frsP,if_neg (by rw [eb,hk,List.length_append,List.length_cons];omega),if_neg (by rw [eg];decide),if_pos eg,e1];simp only;rw [ih (pre++frameP e) _ f (acc++[(e.1,e.2.bs)]) (fun x hx=>hok x (.tail _ hx)) (by rw [hpc] at ha;simpa using ha) (by omega) (by rw [hb,List.flatMap_cons];simp only [List.append_assoc]) (by rw [hk,List.length_append,efl];omega)];rw [List.length_cons,List.flatMap_cons,List.length_append,efl,hpc,show f+1-(T.length+1)=f-T.length by omega];congr 1
  · omega
  simp
theorem frames_le (T:List CH):T.length<=(T.flatMap frameP).length:=by
 induction T with
 | nil=>exact Nat.le_refl _
 | cons e T ih=>
  rw [List.flatMap_cons,List.length_append,List.length_cons]
  have:1<=(frameP e).length:=by
   rw [frameP];simp only [List.length_append,List.length_cons,List.length_nil];omega
  omega
theorem decP_put {T:List CH} (hok:∀ e∈T,okCH e=true) (ha:AscI (T.map (·.1))) (hl:(packP T).length<=1048576):decP (packP T)=some (pcs T):=by
 have e0:packP T=packM++(T.flatMap frameP++([0]++(putU T.length++putU (fpSum (packB T))))):=by
  rw [packP,packB,packF,packM];simp only [List.append_assoc]
 have hln:(packP T).length=4+(T.flatMap frameP).length+1+(putU T.length).length+(putU (fpSum (packB T))).length:=by
  rw [e0,packM];simp only [List.length_append,List.length_cons,List.length_nil];omega
 have hfl:=frames_le T
 have hasc:AscI ((([]:List PC)++pcs T).map (·.1)):=by
  rw [List.nil_append,pcs,List.map_map];exact ha
 have e1:=frsP_put (s:=[0]++(putU T.length++putU (fpSum (packB T)))) (bs:=packP T) T packM 4 ((packP T).length+1) [] hok hasc (by omega) e0 rfl;obtain ⟨f,hf⟩:∃ f,(packP T).length+1-T.length=f+1:=⟨(packP T).length-T.length,by omega⟩;have eb:packP T=(packM++T.flatMap frameP)++((0:UInt8)::(putU T.length++putU (fpSum (packB T)))):=by rw [e0];simp
 have hk4:4+(T.flatMap frameP).length=(packM++T.flatMap frameP).length:=by rw [List.length_append];rfl
 have eg:(packP T).getD (4+(T.flatMap frameP).length) 0=0:=by rw [eb,hk4];exact getD_from _ _ _
 have e3:frsP (packP T) (f+1) (4+(T.flatMap frameP).length) (pcs T)=some (pcs T,4+(T.flatMap frameP).length+1):=by rw [frsP,if_neg (by omega),if_pos eg]
 rw [hf,List.nil_append,e3] at e1
 have e2:endP (packP T) (4+(T.flatMap frameP).length+1) (pcs T).length=true:=by
  have t1:=take_from (packM++T.flatMap frameP++[0]) (putU (fpSum (packB T))) T.length (by omega) (bs:=packP T) (k:=4+(T.flatMap frameP).length+1) (by rw [e0];simp only [List.append_assoc]) (by rw [List.length_append,List.length_append];rfl);have t2:=take_from (packB T) [] (fpSum (packB T)) (sum_small _) (bs:=packP T) (k:=4+(T.flatMap frameP).length+1+(putU T.length).length) (by rw [List.append_nil,packP]) (by rw [packB,packF];simp only [List.length_append,List.length_cons,List.length_nil])
  have t3:(packP T).take (4+(T.flatMap frameP).length+1+(putU T.length).length)=packB T:=by
   rw [packP,show 4+(T.flatMap frameP).length+1+(putU T.length).length=(packB T).length by rw [packB,packF];simp only [List.length_append,List.length_cons,List.length_nil],List.take_left]
  unfold endP;rw [t1];simp only;rw [t2];simp only;rw [t3,decide_eq_true_eq,pcs_len];exact ⟨rfl,by omega,rfl⟩
 unfold decP;rw [if_neg (by omega),if_pos (by rw [e0];exact List.prefix_append _ _),e1];simp only;rw [if_pos e2]
theorem frP_last {bs:List UInt8} {k j:Nat} {last:Option ID} {c:PC} (h:frP bs k last=some (c,j)):last.any (fun x=>decide (0<=cmpID x c.1))=false:=by
 unfold frP at h;split at h
 · cases h
 split at h
 · cases h
 split at h
 · cases h
 split at h
 · cases h
 split at h
 · cases h
 rename_i hl
 injection h with h;injection h with h1 _;rw [<- h1];simpa using hl
theorem asc_snocP {acc:List PC} {c:PC} (ha:AscI (acc.map (·.1))) (h:(acc.getLast?.map (·.1)).any (fun x=>decide (0<=cmpID x c.1))=false):AscI ((acc++[c]).map (·.1)):=by
 rw [List.map_append];refine List.pairwise_append.2 ⟨ha,by simp,fun x hx y hy=>?_⟩;rw [List.map_singleton,List.mem_singleton] at hy;subst hy;rcases List.eq_nil_or_concat acc with rfl | ⟨l,a,rfl⟩
 · cases hx
 rw [List.concat_eq_append] at h ha hx;rw [List.getLast?_append,List.getLast?_singleton] at h;simp only [Option.some_or,Option.map_some,Option.any_some,decide_eq_false_iff_not] at h
 have h1:ltID a.1 c.1=true:=by
  cases hc:ltID a.1 c.1 with
  | true=>rfl
  | false=>exact absurd (cmpID_ge hc) h
 rw [List.map_append,List.mem_append,List.map_singleton,List.mem_singleton] at hx;rcases hx with hx | rfl
 · rw [List.map_append] at ha;exact ltI_trans ((List.pairwise_append.1 ha).2.2 x hx a.1 (by simp)) h1
 exact h1
theorem frsP_asc {bs:List UInt8}:∀ (f k:Nat) (acc l:List PC) (j:Nat),frsP bs f k acc=some (l,j)->AscI (acc.map (·.1))->AscI (l.map (·.1)):=by
 intro f;induction f with
 | zero=>intro k acc l j h;cases h
 | succ f ih=>
  intro k acc l j h ha;rw [frsP] at h;split at h
  · cases h
  split at h
  · injection h with h;injection h with h1 _;rw [<- h1];exact ha
  split at h
  · split at h
    · rename_i c j' hfr
      exact ih _ _ _ _ h (asc_snocP ha (frP_last hfr))
    cases h
  cases h
theorem decP_asc {bs:List UInt8} {S:List CH} (h:decP bs=some (pcs S)):AscI (S.map (·.1)):=by
 unfold decP at h;split at h
 · cases h
 split at h
 · split at h
   · rename_i l k hfr
     split at h
     · injection h with h;subst h;have:=frsP_asc _ _ _ _ _ hfr List.Pairwise.nil;rw [pcs,List.map_map] at this;exact this
     cases h
   cases h
 cases h
theorem opnV_asc {bs:List UInt8} {ms:List Man} {S:List CH} (h:opnV bs=some (ms,pcs S)):AscI (S.map (·.1))/\∀ m∈ms,ManOk m:=by
 unfold opnV at h;split at h
 · rename_i ms' k hr
   obtain ⟨x,h1,e⟩:=Option.map_eq_some_iff.1 h;injection e with e1 e2;subst e1 e2;exact ⟨decP_asc h1,rdMans_ok hr⟩
 cases h
end Go.Proofs.YtmiknfneeipkeaaGreat
namespace Go.Proofs.YtmiknfneeipkeaaGreat
open Go.RowKit Go.MapKept Go.ChangeMaps Go.Shelf Go.Sort
attribute [local go_sem] wext_cell
def rIds (bs:List UInt8):Nat->Nat->List ID->Option (List ID×Nat)
 | 0,k,acc=>some (acc,k)
 | n+1,k,acc=>match takeU 0 0 (bs.drop k) with
  | none=>none
  | some (z,n1)=>if 8192<z then none else match takeU 0 0 (bs.drop (k+n1)) with
   | none=>none
   | some (s,n2)=>rIds bs n (k+n1+n2) (acc++[((s:Int),(z:Int))])
def rDec (bs:List UInt8):Option Man:=
 match takeU 0 0 (bs.drop 0) with
 | none=>none
 | some (z,n0)=>if 1048576<z then none else match takeU 0 0 (bs.drop n0) with
  | none=>none
  | some (c,n1)=>if 1024<c then none else match rIds bs c (n0+n1) [] with
   | none=>none
   | some (ids,k)=>if k≠bs.length∨manE ⟨(z:Int),ids⟩≠0 then none else some ⟨(z:Int),ids⟩
theorem rIds_pre (bs:List UInt8):∀ (n k:Nat) (acc ids:List ID) (j:Nat),rIds bs n k acc=some (ids,j)->∀ x∈acc,x∈ids:=by
 intro n;induction n with
 | zero=>
  intro k acc ids j h x hx;rw [rIds] at h;injection h with h;injection h with h1 h2;rw [<- h1];exact hx
 | succ n ih=>
  intro k acc ids j h x hx;rw [rIds] at h;split at h
  · cases h
  split at h
  · cases h
  split at h
  · cases h
  exact ih _ _ _ _ h x (List.mem_append_left _ hx)
theorem idsD_front (bs:List UInt8) (st:List ID×Nat×Bool):∀ n,idsD bs st (n+1)=idsD bs (stepD bs st) n:=by
 intro n;induction n with
 | zero=>rfl
 | succ n ih=>rw [idsD,ih,idsD]
theorem idsD_bad (bs:List UInt8) (st:List ID×Nat×Bool) (h:st.2.2=true):∀ n,(idsD bs st n).2.2=true:=fun n=>by
 rw [idsD_stuck bs (k:=0) (by exact h) n (Nat.zero_le _)];exact h
abbrev topS:Nat:=2305843009213693951
theorem rIds_idsD (bs:List UInt8):∀ (n k:Nat) (acc:List ID),(rIds bs n k acc=none->(idsD bs (acc,k,false) n).2.2=true)/\∀ ids j,rIds bs n k acc=some (ids,j)->idsD bs (acc,k,false) n=(ids,j,false)∨((idsD bs (acc,k,false) n).2.2=true/\∃ i∈ids,(topS:Int)<i.1):=by
 intro n;induction n with
 | zero=>
  intro k acc;refine ⟨(fun h=>by cases h),fun ids j h=> .inl ?_⟩;rw [rIds] at h;injection h with h;injection h with h1 h2;subst h1;subst h2;rfl
 | succ n ih=>
  intro k acc;rw [idsD_front,rIds];cases h1:takeU 0 0 (bs.drop k) with
  | none=>
   have e:stepD bs (acc,k,false)=(acc,k,true):=by simp [stepD,numD,h1]
   rw [e];exact ⟨fun _=>idsD_bad bs _ rfl n,fun ids j h=>by cases h⟩
  | some p=>
   obtain ⟨z,n1⟩:=p;simp only;by_cases hz:8192<z
   · have e:stepD bs (acc,k,false)=(acc,k,true):=by simp [stepD,numD,h1,hz]
     rw [e,if_pos hz];exact ⟨fun _=>idsD_bad bs _ rfl n,fun ids j h=>by cases h⟩
   rw [if_neg hz];cases h2:takeU 0 0 (bs.drop (k+n1)) with
   | none=>
    have e:stepD bs (acc,k,false)=(acc,k+n1,true):=by simp [stepD,numD,h1,hz,h2]
    rw [e];exact ⟨fun _=>idsD_bad bs _ rfl n,fun ids j h=>by cases h⟩
   | some p2=>
    obtain ⟨s,n2⟩:=p2;simp only;by_cases hs:topS<s
    · have e:stepD bs (acc,k,false)=(acc,k+n1,true):=by simp [stepD,numD,h1,hz,h2,hs]
      rw [e];have hb:=idsD_bad bs (acc,k+n1,true) rfl n;refine ⟨fun _=>hb,fun ids j h=> .inr ⟨hb,((s:Int),(z:Int)),rIds_pre bs _ _ _ _ _ h _ (by simp),?_⟩⟩;simp only;omega
    have e:stepD bs (acc,k,false)=(acc++[((s:Int),(z:Int))],k+n1+n2,false):=by simp [stepD,numD,h1,hz,h2,hs]
    rw [e];exact ih _ _
theorem big_manE {ids:List ID} {z:Int} (h:∃ i∈ids,(topS:Int)<i.1):manE ⟨z,ids⟩≠0:=fun h0=>by
 obtain ⟨i,hi,h1⟩:=h;have h2:=List.all_eq_true.1 (manE_zero h0).1 i hi;simp only [chunkB,validB,Bool.and_eq_true,decide_eq_true_eq] at h2;unfold topS at h1;omega
theorem rDec_eq (bs:List UInt8):rDec bs=decM bs:=by
 rw [rDec,decM];cases h0:takeU 0 0 (bs.drop 0) with
 | none=>
  have h0':takeU 0 0 bs=none:=h0;have e1:headD bs=(0,0,true):=by simp [headD,numD,h0']
  have e2:cntD bs=(0,0,true):=by simp [cntD,numD,e1]
  have e3:allD bs=([],0,true):=by rw [allD,e2];rfl
  rw [e3,if_pos (.inl rfl)]
 | some p=>
  obtain ⟨z,n0⟩:=p;have h0':takeU 0 0 bs=some (z,n0):=h0;simp only;by_cases hz:1048576<z
  · have e1:headD bs=(0,0,true):=by simp [headD,numD,h0',hz]
    have e2:cntD bs=(0,0,true):=by simp [cntD,numD,e1]
    have e3:allD bs=([],0,true):=by rw [allD,e2];rfl
    rw [if_pos hz,e3,if_pos (.inl rfl)]
  have e1:headD bs=(z,n0,false):=by simp [headD,numD,h0',hz]
  rw [if_neg hz,e1];cases h1:takeU 0 0 (bs.drop n0) with
  | none=>
   have e2:cntD bs=(0,n0,true):=by simp [cntD,numD,e1,h1]
   have e3:allD bs=([],n0,true):=by rw [allD,e2];rfl
   rw [e3,if_pos (.inl rfl)]
  | some p1=>
   obtain ⟨c,n1⟩:=p1;simp only;by_cases hc:1024<c
   · have e2:cntD bs=(0,n0,true):=by simp [cntD,numD,e1,h1,hc]
     have e3:allD bs=([],n0,true):=by rw [allD,e2];rfl
     rw [if_pos hc,e3,if_pos (.inl rfl)]
   have e2:cntD bs=(c,n0+n1,false):=by simp [cntD,numD,e1,h1,hc]
   have e3:allD bs=idsD bs ([],n0+n1,false) c:=by rw [allD,e2]
   rw [if_neg hc,e3];obtain ⟨g1,g2⟩:=rIds_idsD bs c (n0+n1) [];cases hr:rIds bs c (n0+n1) [] with
   | none=>
    rw [if_pos (.inl (g1 hr))]
   | some q=>
    obtain ⟨ids,k⟩:=q;simp only;rcases g2 ids k hr with e | ⟨e,hb⟩
    · rw [e];by_cases hx:k≠bs.length∨manE ⟨(z:Int),ids⟩≠0
      · rw [if_pos hx,if_pos (.inr hx)]
      rw [if_neg hx,if_neg];rintro (h | h)
      · cases h
      exact hx h
    rw [if_pos (.inr (big_manE hb)),if_pos (.inl e)]
section
variable {b:Nat} {w0 w w':World} {l:List Ob}
set_option maxRecDepth 100000 in
set_option maxHeartbeats 8000000 in
theorem rManDec_any (h:SW b w0 l w) {A:Option Addr} {c:Nat} {bs:List UInt8} (hr:rsOb A bs∈l) (hv:(A=none->c=0)/\bs.length<=c/\bs.length<=9223372036854775807):
 Calls Tryz.prog 117 #[.slice A bs.length c] w (DecP bs b w0 l):=by
 have HD:=kh (rDec_eq bs);have HVV:=kh hv;have HR:=kh hr;have S0:=kh (h.newCellAt 33 #[.int .i64 0,.slice none 0 0] (H:=w.heap.size) rfl);clear h hr hv;obtain ⟨i1,gi,gz0,gz1,gz2⟩:=info_parts info36;go_enter Tryz.func117,Tryz.ntmps117;go_upto_region 1 with fail
 obtain ⟨gr,HGR⟩:∃ x,Hid (w.heap.size=x):=⟨_,rfl⟩;obtain ⟨w1,HW1⟩:∃ W,Hid (w.alloc (.cells #[.int .i64 0,.slice none 0 0] 33)=W):=⟨_,rfl⟩;rw [HGR.out,HW1.out] at S0;rw [HGR.out,HW1.out];clear HW1 HGR;have HT1:Hid (Calls Tryz.prog 116 #[.slice A bs.length c,.int .i64 0] w1 (UintP bs 0 w1)):=rTake_any A c bs 0 w1 (S0.out.view (.tail _ HR.out) HVV.out) (Nat.zero_le _);go_wp2_with (go_at_call 116;(with_reducible refine HT1.out.mono ?_);refine halt_ ?_)
 rintro e w2 ⟨rfl,⟨z,n0,ht,rfl⟩ | ⟨ht,q,hq,rfl⟩⟩
 · have hnl:=takeU_le _ _ _ _ _ ht;rw [List.drop_zero] at hnl;have HT0:=kh ht;clear ht HT1;have hn1:n0<=bs.length:=by omega
   have hz0:((0+n0:Nat):Int)=(n0:Int):=by omega
   rw [hz0];clear hnl hz0;by_cases hz:1048576<z
   · have hd:decide ((1048576:Int)<(z:Int))=true:=decide_eq_true (by omega);have HN:Hid (decM bs=none):=by rw [Hid, <- HD.out,rDec,HT0.out];simp only;rw [if_pos hz]
     clear hz;have r0:=(S0.out.cell 0 rfl).cell 0;have r1:=(S0.out.cell 0 rfl).cell 1;have rz:=fun o=>(S0.out.cell 0 rfl).frozen o;go_wp2_with fail
     have S9:=kh ((S0.out.setAt 0 rfl 0 (.int .i64 0)).setAt 0 rfl 1 (.slice none 0 0));have e0:=(S9.out.cell 0 rfl).cell 0;have e1:=(S9.out.cell 0 rfl).cell 1;refine bodyPost_ret (v:=.tuple #[.agg #[.int .i64 0,.slice none 0 0],.int .i64 256]) (by simp [results,Tryz.results117,go_sem,e0,e1,Result.andThen]) rfl ?_;exact .inr ⟨HN.out,rfl,S9.out.tail⟩
   have hd:decide ((1048576:Int)<(z:Int))=false:=decide_eq_false (by omega);have HZ:=kh hz;have hzl:z<=1048576:=by omega
   clear hz;have HT2:=kh (rTake_any A c bs n0 w2 (S0.out.view (.tail _ HR.out) HVV.out) hn1);go_wp2_with (go_at_call 116;(with_reducible refine HT2.out.mono ?_);refine halt_ ?_)
   rintro e w3 ⟨rfl,⟨cn,n1,ht,rfl⟩ | ⟨ht,q,hq,rfl⟩⟩
   · have hnl:=takeU_le _ _ _ _ _ ht;rw [List.length_drop] at hnl;have HTC:=kh ht;clear ht HT2 hd;obtain ⟨k0,HK0⟩:∃ x,Hid (n0+n1=x):=⟨_,rfl⟩;have hk0:k0<=bs.length:=by have:=HK0.out;omega
     rw [HK0.out];clear hnl;by_cases hc:1024<cn
     · have hd:decide ((1024:Int)<(cn:Int))=true:=decide_eq_true (by omega);have HN:Hid (decM bs=none):=by rw [Hid, <- HD.out,rDec,HT0.out];simp only;rw [if_neg HZ.out,HTC.out];simp only;rw [if_pos hc]
       clear hc;have r0:=(S0.out.cell 0 rfl).cell 0;have r1:=(S0.out.cell 0 rfl).cell 1;have rz:=fun o=>(S0.out.cell 0 rfl).frozen o;go_wp2_with fail
       have S9:=kh ((S0.out.setAt 0 rfl 0 (.int .i64 0)).setAt 0 rfl 1 (.slice none 0 0));have e0:=(S9.out.cell 0 rfl).cell 0;have e1:=(S9.out.cell 0 rfl).cell 1;refine bodyPost_ret (v:=.tuple #[.agg #[.int .i64 0,.slice none 0 0],.int .i64 256]) (by simp [results,Tryz.results117,go_sem,e0,e1,Result.andThen]) rfl ?_;exact .inr ⟨HN.out,rfl,S9.out.tail⟩
     have hd:decide ((1024:Int)<(cn:Int))=false:=decide_eq_false (by omega)
     have HRD:Hid (decM bs=match rIds bs cn k0 [] with
      | none=>none
      | some (ids,k)=>if k≠bs.length∨manE ⟨(z:Int),ids⟩≠0 then none else some ⟨(z:Int),ids⟩):=by rw [Hid, <- HD.out,rDec,HT0.out];simp only;rw [if_neg HZ.out,HTC.out];simp only;rw [if_neg hc,HK0.out]
     have hcl:cn<=1024:=by omega
     clear hc HTC HK0;go_upto_region 7 with fail
     have S1:=kh (S0.out.newCell 33 #[.int .i64 (z:Int),.slice none 0 0]);go_upto_region 8 with fail
     obtain ⟨gm,HGM⟩:∃ x,Hid (w3.heap.size=x):=⟨_,rfl⟩;obtain ⟨w4,HW⟩:∃ W,Hid (w3.alloc (.cells #[.int .i64 (z:Int),.slice none 0 0] 33)=W):=⟨_,rfl⟩;rw [HGM.out,HW.out] at S1;rw [HGM.out,HW.out];clear HGM HW hd S0;have S2:Hid (SW b w0 (cellOb gm 33 #[.int .i64 (z:Int),.slice none 0 0]::rowOb 36 2 (.slice none 0 0) 0 []::cellOb gr 33 #[.int .i64 0,.slice none 0 0]::l) w4):=SW.front (pre:=[_,_,_]) (S1.out.newRow 36 2) [1,0,2] (n:=3) rfl (by decide);clear S1;go_wp2_with fail
     go_loopw [5,9] (fun s5 s9 wr=>∃ (i k:Nat) (ids:List ID) (D:Option Addr) (dc:Nat),i<=cn/\s9= .int .u64 (i:Int)/\s5= .int .i64 (k:Int)/\k<=bs.length/\ids.length<=i/\Hid (rIds bs cn k0 []=rIds bs (cn-i) k ids)/\SW b w0 (cellOb gm 33 #[.int .i64 (z:Int),.slice D ids.length dc]::rowOb 36 2 (.slice D ids.length dc) ids.length (ids.flatMap encID)::cellOb gr 33 #[.int .i64 0,.slice none 0 0]::l) wr) (fun _ s9 _=>cn-(intOf s9).toNat)
     case atStart=>exact ⟨0,k0,[],none,0,Nat.zero_le _,rfl,rfl,hk0,Nat.le_refl _,rfl,S2.out⟩
     obtain ⟨i,k,ids,D,dc,hi,rfl,rfl,hk,hil,HI,hs⟩:=hrel;have S3:=kh hs;clear hs S2 hk0;by_cases hlt:i<cn
     · have HCI:Hid (rIds bs (cn-i) k ids=match takeU 0 0 (bs.drop k) with
        | none=>none
        | some (z,n1)=>if 8192<z then none else match takeU 0 0 (bs.drop (k+n1)) with
         | none=>none
         | some (s,n2)=>rIds bs (cn-(i+1)) (k+n1+n2) (ids++[((s:Int),(z:Int))])):=by
        rw [Hid,show cn-i=(cn-(i+1))+1 by omega,rIds]
       have HT3:=kh (rTake_any A c bs k wr (S3.out.view (.tail _ (.tail _ (.tail _ HR.out))) HVV.out) hk);go_wp2_with (go_at_call 116;(with_reducible refine HT3.out.mono ?_);refine halt_ ?_)
       rintro e w5 ⟨rfl,⟨y,m1,ht,rfl⟩ | ⟨ht,q,hq,rfl⟩⟩
       · have hnl:=takeU_le _ _ _ _ _ ht;rw [List.length_drop] at hnl;have HTY:=kh ht;clear ht HT3;obtain ⟨k1,HK1⟩:∃ x,Hid (k+m1=x):=⟨_,rfl⟩;have hk1:k1<=bs.length:=by have:=HK1.out;omega
         rw [HK1.out];clear hnl;by_cases hy:8192<y
         · have hd:decide ((8192:Int)<(y:Int))=true:=decide_eq_true (by omega);have HN:Hid (decM bs=none):=by rw [Hid,HRD.out,HI.out,HCI.out,HTY.out];simp only;rw [if_pos hy]
           clear hy;have r0:=(S3.out.cell 2 rfl).cell 0;have r1:=(S3.out.cell 2 rfl).cell 1;have rz:=fun o=>(S3.out.cell 2 rfl).frozen o;go_wp2_with fail
           have S9:=kh ((S3.out.setAt 2 rfl 0 (.int .i64 0)).setAt 2 rfl 1 (.slice none 0 0));have e0:=(S9.out.cell 2 rfl).cell 0;have e1:=(S9.out.cell 2 rfl).cell 1;refine bodyPost_ret (v:=.tuple #[.agg #[.int .i64 0,.slice none 0 0],.int .i64 256]) (by simp [results,Tryz.results117,go_sem,e0,e1,Result.andThen]) rfl ?_;exact .inr ⟨HN.out,rfl,S9.out.tail.tail.tail⟩
         have hd:decide ((8192:Int)<(y:Int))=false:=decide_eq_false (by omega);have HY:=kh hy;have hyl:y<=8192:=by omega
         clear hy;have HT4:=kh (rTake_any A c bs k1 w5 (S3.out.view (.tail _ (.tail _ (.tail _ HR.out))) HVV.out) hk1);go_wp2_with (go_at_call 116;(with_reducible refine HT4.out.mono ?_);refine halt_ ?_)
         rintro e w6 ⟨rfl,⟨u,m2,ht,rfl⟩ | ⟨ht,q,hq,rfl⟩⟩
         · have hnl:=takeU_le _ _ _ _ _ ht;rw [List.length_drop] at hnl;have HTU:=kh ht;clear ht HT4;obtain ⟨k2,HK2⟩:∃ x,Hid (k1+m2=x):=⟨_,rfl⟩;have hk2:k2<=bs.length:=by have:=HK2.out;omega
           rw [HK2.out];clear hnl
           have HI2:Hid (rIds bs cn k0 []=rIds bs (cn-(i+1)) k2 (ids++[((u:Int),(y:Int))])):=by
            rw [Hid,HI.out,HCI.out,HTY.out];simp only;rw [if_neg HY.out,HK1.out,HTU.out];simp only;rw [HK2.out]
           have c1:=(S3.out.cell 0 rfl).cell 1;have S4:=kh (S3.out.newCell 36 #[.int .u64 (u:Int),.int .i64 (y:Int)]);clear HI HCI HTY HTU HK1 HK2;go_wp2_with (at_builtin;(refine wpList_rowS (t:=31) (e:=36) (size:=2) (bytes:=16) (i:=i1) S4.out 2 rfl (by rfl) (.tmp 72) (.tmp 77) (by rfl) Tryz.underlying31 gi gz0 gz1 gz2 rfl (by omega) (by rfl) ⟨w6.heap.size,0,none⟩ 1 [.int .u64 (u:Int),.int .i64 (y:Int)] (by rfl) rfl (two_new _ _ _ _ _ (by simp)) (encID_one ((u:Int),(y:Int))) (by unfold maxLen;omega) (by omega) ?_);refine halt_ ?_)
           intro v8 w8 s8;obtain ⟨g8,c8,rfl⟩:=own_some (s8.get 2 rfl) (by omega);have S8:=kh s8;have mz0:=(S8.out.cell 1 rfl).cell 1;have mz:=fun o=>(S8.out.cell 1 rfl).frozen o
           have S9:Hid (SW b w0 (cellOb gm 33 #[.int .i64 (z:Int),.slice (some ⟨g8,0,none⟩) (ids++[((u:Int),(y:Int))]).length c8]::rowOb 36 2 (.slice (some ⟨g8,0,none⟩) (ids++[((u:Int),(y:Int))]).length c8) (ids++[((u:Int),(y:Int))]).length ((ids++[((u:Int),(y:Int))]).flatMap encID)::cellOb gr 33 #[.int .i64 0,.slice none 0 0]::l) (w8.setCell ⟨gm,1,none⟩ (.slice (some ⟨g8,0,none⟩) (ids.length+1) c8))):=by
            have h1:=(S8.out.setAt 1 rfl 1 (.slice (some ⟨g8,0,none⟩) (ids.length+1) c8)).tail;rw [Hid,List.length_append,List.flatMap_append];exact h1
           have HLN:Hid (ids.length+1=(ids++[((u:Int),(y:Int))]).length):=by rw [Hid,List.length_append];rfl
           clear s8 S3 S4 S8 c1;go_wp2_with fail
           go_roundw
           case rel=>exact ⟨i+1,k2,ids++[((u:Int),(y:Int))],some ⟨g8,0,none⟩,c8,by omega,by go_num,rfl,hk2,by rw [<- HLN.out];omega,HI2,S9.out⟩
           simp [intOf];omega
         have hqn:(q !=0)=true:=by rw [bne_iff_ne];exact hq
         have HN:Hid (decM bs=none):=by rw [Hid,HRD.out,HI.out,HCI.out,HTY.out];simp only;rw [if_neg HY.out,HK1.out,ht]
         clear ht hq HT4;have r0:=(S3.out.cell 2 rfl).cell 0;have r1:=(S3.out.cell 2 rfl).cell 1;have rz:=fun o=>(S3.out.cell 2 rfl).frozen o;go_wp2_with fail
         have S9:=kh ((S3.out.setAt 2 rfl 0 (.int .i64 0)).setAt 2 rfl 1 (.slice none 0 0));have e0:=(S9.out.cell 2 rfl).cell 0;have e1:=(S9.out.cell 2 rfl).cell 1;refine bodyPost_ret (v:=.tuple #[.agg #[.int .i64 0,.slice none 0 0],.int .i64 256]) (by simp [results,Tryz.results117,go_sem,e0,e1,Result.andThen]) rfl ?_;exact .inr ⟨HN.out,rfl,S9.out.tail.tail.tail⟩
       have hqn:(q !=0)=true:=by rw [bne_iff_ne];exact hq
       have HN:Hid (decM bs=none):=by rw [Hid,HRD.out,HI.out,HCI.out,ht]
       clear ht hq HT3;have r0:=(S3.out.cell 2 rfl).cell 0;have r1:=(S3.out.cell 2 rfl).cell 1;have rz:=fun o=>(S3.out.cell 2 rfl).frozen o;go_wp2_with fail
       have S9:=kh ((S3.out.setAt 2 rfl 0 (.int .i64 0)).setAt 2 rfl 1 (.slice none 0 0));have e0:=(S9.out.cell 2 rfl).cell 0;have e1:=(S9.out.cell 2 rfl).cell 1;refine bodyPost_ret (v:=.tuple #[.agg #[.int .i64 0,.slice none 0 0],.int .i64 256]) (by simp [results,Tryz.results117,go_sem,e0,e1,Result.andThen]) rfl ?_;exact .inr ⟨HN.out,rfl,S9.out.tail.tail.tail⟩
     obtain rfl:i=cn:=by omega
     have HRI:Hid (rIds bs i k0 []=some (ids,k)):=by rw [Hid,HI.out,Nat.sub_self,rIds]
     by_cases hab:k=bs.length
     · have hbe:((k:Int) !=(bs.length:Int))=false:=by rw [bne_eq_false_iff_eq];omega
       have hbe2:(k !=bs.length)=false:=by rw [bne_eq_false_iff_eq];exact hab
       have HAB:=kh hab;have hidl:ids.length<=1024:=by omega
       have HCK:=kh (rmanCheck_any _ ⟨(z:Int),ids⟩ D dc wr (row_rdI (S3.out.get 1 rfl) rfl) (by simp only;omega));have m0:=(S3.out.cell 0 rfl).cell 0;have m1:=(S3.out.cell 0 rfl).cell 1;clear hab;go_wp2_with (go_at_call 37;(with_reducible refine HCK.out.mono ?_);refine halt_ ?_)
       rintro e w9 ⟨rfl,hb9⟩;have S4:=kh (S3.out.on hb9);clear hb9 S3 HCK m0 m1;by_cases hE:manE ⟨(z:Int),ids⟩=0
       · have HDS:Hid (decM bs=some ⟨(z:Int),ids⟩):=by
          rw [Hid,HRD.out,HRI.out];simp only;rw [if_neg];rintro (h | h)
          · exact h HAB.out
          exact h hE
         rw [hE];have r0:=(S4.out.cell 2 rfl).cell 0;have r1:=(S4.out.cell 2 rfl).cell 1;have rz:=fun o=>(S4.out.cell 2 rfl).frozen o;have m0:=(S4.out.cell 0 rfl).cell 0;have m1:=(S4.out.cell 0 rfl).cell 1;have S9:=kh ((S4.out.setAt 2 rfl 0 (.int .i64 (z:Int))).setAt 2 rfl 1 (.slice D ids.length dc));have e0:=(S9.out.cell 2 rfl).cell 0;have e1:=(S9.out.cell 2 rfl).cell 1;have SL:Hid (SW b w0 (rowOb 36 2 (.slice D ids.length dc) ids.length (ids.flatMap encID)::l) _):=SW.sub S9.out (.cons _ (.cons_cons _ (.cons _ (List.Sublist.refl _))));clear S4 S9 hE;go_wp2_with fail
         refine bodyPost_ret (v:=.tuple #[.agg #[.int .i64 (z:Int),.slice D ids.length dc],.int .i64 0]) (by simp [results,Tryz.results117,go_sem,e0,e1,Result.andThen]) rfl ?_;exact .inl ⟨⟨(z:Int),ids⟩,D,dc,HDS.out,rfl,SL.out⟩
       have HN:Hid (decM bs=none):=by
        rw [Hid,HRD.out,HRI.out];simp only;rw [if_pos (.inr hE)]
       have hEn:(manE ⟨(z:Int),ids⟩ !=0)=true:=by rw [bne_iff_ne];exact hE
       clear hE;have r0:=(S4.out.cell 2 rfl).cell 0;have r1:=(S4.out.cell 2 rfl).cell 1;have rz:=fun o=>(S4.out.cell 2 rfl).frozen o;go_wp2_with fail
       have S9:=kh ((S4.out.setAt 2 rfl 0 (.int .i64 0)).setAt 2 rfl 1 (.slice none 0 0));have e0:=(S9.out.cell 2 rfl).cell 0;have e1:=(S9.out.cell 2 rfl).cell 1;refine bodyPost_ret (v:=.tuple #[.agg #[.int .i64 0,.slice none 0 0],.int .i64 256]) (by simp [results,Tryz.results117,go_sem,e0,e1,Result.andThen]) rfl ?_;exact .inr ⟨HN.out,rfl,S9.out.tail.tail.tail⟩
     have hbe:((k:Int) !=(bs.length:Int))=true:=by rw [bne_iff_ne];omega
     have HN:Hid (decM bs=none):=by
      rw [Hid,HRD.out,HRI.out];simp only;rw [if_pos (.inl hab)]
     have hbe2:(k !=bs.length)=true:=by rw [bne_iff_ne];exact hab
     clear hab;have r0:=(S3.out.cell 2 rfl).cell 0;have r1:=(S3.out.cell 2 rfl).cell 1;have rz:=fun o=>(S3.out.cell 2 rfl).frozen o;go_wp2_with fail
     have S9:=kh ((S3.out.setAt 2 rfl 0 (.int .i64 0)).setAt 2 rfl 1 (.slice none 0 0));have e0:=(S9.out.cell 2 rfl).cell 0;have e1:=(S9.out.cell 2 rfl).cell 1;refine bodyPost_ret (v:=.tuple #[.agg #[.int .i64 0,.slice none 0 0],.int .i64 256]) (by simp [results,Tryz.results117,go_sem,e0,e1,Result.andThen]) rfl ?_;exact .inr ⟨HN.out,rfl,S9.out.tail.tail.tail⟩
   have hqn:(q !=0)=true:=by rw [bne_iff_ne];exact hq
   have HN:Hid (decM bs=none):=by rw [Hid, <- HD.out,rDec,HT0.out];simp only;rw [if_neg HZ.out,ht]
   clear ht hq HT2 hd;have r0:=(S0.out.cell 0 rfl).cell 0;have r1:=(S0.out.cell 0 rfl).cell 1;have rz:=fun o=>(S0.out.cell 0 rfl).frozen o;go_wp2_with fail
   have S9:=kh ((S0.out.setAt 0 rfl 0 (.int .i64 0)).setAt 0 rfl 1 (.slice none 0 0));have e0:=(S9.out.cell 0 rfl).cell 0;have e1:=(S9.out.cell 0 rfl).cell 1;refine bodyPost_ret (v:=.tuple #[.agg #[.int .i64 0,.slice none 0 0],.int .i64 256]) (by simp [results,Tryz.results117,go_sem,e0,e1,Result.andThen]) rfl ?_;exact .inr ⟨HN.out,rfl,S9.out.tail⟩
 have hqn:(q !=0)=true:=by rw [bne_iff_ne];exact hq
 have HN:Hid (decM bs=none):=by rw [Hid, <- HD.out,rDec,ht]
 have r0:=(S0.out.cell 0 rfl).cell 0;have r1:=(S0.out.cell 0 rfl).cell 1;have rz:=fun o=>(S0.out.cell 0 rfl).frozen o;clear ht hq HT1;go_wp2_with fail
 have S9:=kh ((S0.out.setAt 0 rfl 0 (.int .i64 0)).setAt 0 rfl 1 (.slice none 0 0));have e0:=(S9.out.cell 0 rfl).cell 0;have e1:=(S9.out.cell 0 rfl).cell 1;refine bodyPost_ret (v:=.tuple #[.agg #[.int .i64 0,.slice none 0 0],.int .i64 256]) (by simp [results,Tryz.results117,go_sem,e0,e1,Result.andThen]) rfl ?_;exact .inr ⟨HN.out,rfl,S9.out.tail⟩
end
end Go.Proofs.YtmiknfneeipkeaaGreat
