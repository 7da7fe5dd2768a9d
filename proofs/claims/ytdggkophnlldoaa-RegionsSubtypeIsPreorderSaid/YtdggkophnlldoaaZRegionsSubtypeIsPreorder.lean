/- The walk of the law RegionsSubtypeIsPreorder. -/

